/- Literals of structs, arrays and slices. No conditions. -/
import Derived.Test.YtaifnpbgamookaaDoorAbY
namespace Go.Ab
section
variable {P : Program} {Γ : G}

theorem foldl_splice (off : Nat) : ∀ (l : List Value) (k : Nat) (cs : List Value), off + k + l.length ≤ cs.length →
    (l.zipIdx k).foldl (fun (cs : Array Value) (x : Value × Nat) => cs.setIfInBounds (off + x.2) x.1) cs.toArray = (cs.take (off + k) ++ l ++ cs.drop (off + k + l.length)).toArray
  | [], k, cs, h => by simp
  | v :: l, k, cs, h => by
    simp only [List.zipIdx_cons, List.foldl_cons, List.setIfInBounds_toArray]
    rw [foldl_splice off l (k + 1) (cs.set (off + k) v) (by simp at h ⊢; omega)]
    congr 1
    simp at h
    have h1 : (cs.set (off + k) v).take (off + (k + 1)) = cs.take (off + k) ++ [v] := by
      rw [List.set_eq_take_append_cons_drop, if_pos (by omega)]
      rw [show off + (k + 1) = (cs.take (off + k)).length + 1 by simp; omega, List.take_append]
      simp
      exact List.take_of_length_le (by simp)
    have h2 : (cs.set (off + k) v).drop (off + (k + 1) + l.length) = cs.drop (off + k + (v :: l).length) := by
      rw [List.drop_set_of_lt (by omega)]
      congr 1; simp; omega
    rw [h1, h2]; simp
theorem fold_cells (off : Nat) (us cs : List Value) (h : off + us.length ≤ cs.length) :
    (us.toArray.zipIdx.foldl (fun (cs : Array Value) (x : Value × Nat) => cs.setIfInBounds (off + x.2) x.1) cs.toArray) = (cs.take off ++ us ++ cs.drop (off + us.length)).toArray := by
  have := foldl_splice off us 0 cs (by simpa using h)
  rw [Nat.add_zero] at this
  rw [← this, ← Array.foldl_toList]
  simp

theorem VL.splice {S : Nat → Nat → Prop} {w : World} {cs ys : List AV} {vs us : List Value} (h : VL S w cs vs) (k : VL S w ys us) (off : Nat) :
    VL S w (splice cs off ys) (vs.take off ++ us ++ vs.drop (off + us.length)) := by
  unfold Ab.splice
  rw [((VL_iff _ _).1 k).1]
  exact ((h.take off).append k).append (h.drop _)

/-- Parts of a literal, as trees and as values. -/
inductive VP (Γ : G) : List (Nat × AV) → List (Nat × Value) → Prop
  | nil : VP Γ [] []
  | cons {i : Nat} {x : AV} {v : Value} {xs : List (Nat × AV)} {vs : List (Nat × Value)} : V Γ x v → VP Γ xs vs → VP Γ ((i, x) :: xs) ((i, v) :: vs)

theorem fill_ok {pa : Nat → Option (Nat × Nat)} {pl : Nat → Option (Nat × Nat)} (hp : ∀ i q, pa i = some q → pl i = some q) :
    ∀ (parts : List (Nat × AV)) (vparts : List (Nat × Value)) (cs r : List AV) (vs : List Value), VP Γ parts vparts → fillA pa cs parts = some r → VL Γ.S Γ.w cs vs →
      ∃ us : List Value, Instr.fill pl vs.toArray vparts = some us.toArray ∧ VL Γ.S Γ.w r us
  | [], _, cs, r, vs, hv, h, hl => by
    cases hv
    simp [fillA] at h; subst h
    exact ⟨vs, rfl, hl⟩
  | (i, x) :: parts, _, cs, r, vs, hv, h, hl => by
    cases hv with
    | cons hx hr =>
      rename_i v vr
      simp only [fillA] at h
      split at h
      · rename_i off size ys hpa hys
        split at h
        · rename_i hc
          simp only [Option.bind_eq_some_iff] at hys
          obtain ⟨x', hs, hcs⟩ := hys
          obtain ⟨us, hvc, hul⟩ := cellsOf_ok hcs (settled_ok hs hx)
          have hlu := ((VL_iff _ _).1 hul).1
          have hlv := ((VL_iff _ _).1 hl).1
          obtain ⟨us', g1, g2⟩ := fill_ok hp parts vr (Ab.splice cs off ys) r _ hr h (hl.splice hul off)
          refine ⟨us', ?_, g2⟩
          have h1 : ¬ (v.cells.size ≠ size) := by rw [hvc]; simp; omega
          have h2 : ¬ (off + v.cells.size > vs.toArray.size) := by rw [hvc]; simp; omega
          simp only [Instr.fill, hp _ _ hpa]
          rw [if_neg (by simp only [Bool.or_eq_true, decide_eq_true_eq]; omega)]
          rw [hvc, fold_cells off us vs (by omega)]
          exact g1
        · cases h
      · cases h

theorem run_places {fs : Array Field} {pl : List (Nat × Nat)} (h : fs.toList.mapM (fun f => (P.info? f.type).map fun i => (f.offset, i.size)) = some pl) (w : World) :
    (fs.mapM (fun f => do pure (f.offset, ← sizeOf f.type) : Field → Sem (Nat × Nat))).run P w = .ok pl.toArray w := by
  rw [Array.mapM_eq_mapM_toList]
  have key : ∀ (l : List Field) (pl : List (Nat × Nat)), l.mapM (fun f => (P.info? f.type).map fun i => (f.offset, i.size)) = some pl →
      (l.mapM (fun f => do pure (f.offset, ← sizeOf f.type) : Field → Sem (Nat × Nat))).run P w = .ok pl w := by
    intro l
    induction l with
    | nil => intro pl h; simp at h; subst h; rfl
    | cons f l ih =>
      intro pl h
      rw [List.mapM_cons] at h ⊢
      simp only [Option.bind_eq_bind, Option.bind_eq_some_iff, Option.map_eq_some_iff] at h
      obtain ⟨q, ⟨i, hi, rfl⟩, r, hr, h⟩ := h
      cases h
      have hs : (sizeOf f.type).run P w = .ok i.size w := by simp [sizeOf, typeInfo, hi]
      simp only [Sem.run_bind, hs, Result.andThen_ok, Sem.run_pure, ih _ hr]
  simp only [Sem.run_map, key _ _ h, Result.andThen_ok]

theorem buildA_st {t : Nat} {z r : List AV} {pl : List (Nat × Nat)} {parts : List (Nat × AV)} {vparts : Array (Nat × Value)} (hz : zeroOf P t = some z) (hp : placesA P t = some pl) (hv : VP Γ parts vparts.toList)
    (h : fillA (fun i => pl[i]?) z parts = some r) : PureOk P (Instr.build t vparts) Γ (.agg r) := by
  obtain ⟨zv, h1, rfl, h2⟩ := zeroOf_all hz
  unfold placesA at hp
  split at hp
  · rename_i fs hu
    obtain ⟨us, g1, g2⟩ := fill_ok (pl := fun i => pl.toArray[i]?) (fun i q hq => by simpa using hq) parts _ _ r _ hv h (h2 Γ.S Γ.w)
    refine ⟨.agg us.toArray, ?_, (V_tree rfl).2 ⟨us, rfl, g2⟩⟩
    simp only [Array.toArray_toList] at g1
    simp only [Instr.build, Sem.run_bind, h1, Result.andThen_ok, run_underlying hu, run_places hp, g1]
    rfl
  · cases hp
theorem buildA_arr {t m e n : Nat} {z r : List AV} {parts : List (Nat × AV)} {vparts : Array (Nat × Value)} (hz : zeroOf P t = some z) (ht : tkOf P t = .arr m e) (hn : esz P e = some n) (hv : VP Γ parts vparts.toList)
    (h : fillA (fun i => some (i * n, n)) z parts = some r) : PureOk P (Instr.build t vparts) Γ (.agg r) := by
  obtain ⟨zv, h1, rfl, h2⟩ := zeroOf_all hz
  obtain ⟨us, g1, g2⟩ := fill_ok (pl := fun i => some (i * n, n)) (fun i q hq => hq) parts _ _ r _ hv h (h2 Γ.S Γ.w)
  refine ⟨.agg us.toArray, ?_, (V_tree rfl).2 ⟨us, rfl, g2⟩⟩
  simp only [Array.toArray_toList] at g1
  simp only [Instr.build, Sem.run_bind, h1, Result.andThen_ok, run_underlying (tk_arr ht), run_esz hn, g1]
  rfl

theorem buildSlice_ok (hI : Inv Γ) {t len e n : Nat} {z r : List AV} {parts : List (Nat × AV)} {vparts : Array (Nat × Value)} (ht : tkOf P t = .sl e) (hn : esz P e = some n) (hz : zeroOf P e = some z) (hzl : z.length = n) (hln : len * n ≤ 4096)
    (hv : VP Γ parts vparts.toList) (h : fillA (fun i => some (i * n, n)) (rep len z) parts = some r) : SemOk P (Instr.buildSlice t len vparts) Γ Γ.s (.sl r len .tight) := by
  obtain ⟨zv, h1, rfl, h2⟩ := zeroOf_all hz
  have hzs : zv.cells.size = n := by simpa using hzl
  obtain ⟨us, g1, g2⟩ := fill_ok (pl := fun i => some (i * n, n)) (fun i q hq => hq) parts _ _ r _ hv h (VL_rep (h2 Γ.S Γ.w) len)
  have hnp := (esz_info hn).choose_spec.2.2
  obtain ⟨Γ', hs', hw', hI', hE', hvc⟩ := hI.row (w' := Γ.w.alloc (.cells us.toArray e)) rfl rfl rfl (by simp) (fun k hk => by
    show (Γ.w.heap.push _)[k]? = _
    rw [Array.getElem?_push, if_neg (by omega)]) r us g2 (fun i v hv => by rw [World.cell?_alloc_new]; simpa using hv)
  refine ⟨.slice (some ⟨Γ.w.heap.size, 0, none⟩) len len, Γ', ?_, hs', hI', hE', V_cell ⟨_, len, rfl, Nat.le_refl _, fun _ => rfl, ⟨rfl, by simp⟩, .inr ⟨_, 0, rfl, hvc⟩⟩⟩
  rw [hw']
  have hbig : ¬ (len * n > 2 ^ 24) := by omega
  have hcells : ((Array.range (len * n)).map fun j => zv.cells[j % zv.cells.size]!) = ((List.replicate len zv.cells.toList).flatten).toArray := by
    have := range_rep zv.cells len
    rwa [hzs] at this ⊢
  by_cases h0 : len * n = 0
  · have hl0 : len = 0 := by
      rcases Nat.mul_eq_zero.1 h0 with h | h
      · exact h
      · omega
    subst hl0
    have g1' : Instr.fill (fun i => some (i * n, n)) #[] vparts.toList = some us.toArray := by simpa using g1
    have hm : ∀ f : Nat → Value, (Array.range 0).map f = #[] := fun f => by rw [show Array.range 0 = #[] from rfl, Array.map_empty]
    have hb0 : ¬ (0 > 2 ^ 24) := by omega
    simp only [Instr.buildSlice, Sem.run_bind, run_underlying (tk_sl ht), Result.andThen_ok, run_esz hn, Nat.zero_mul, hb0, if_false, if_true, Sem.run_pure, hm, g1', newRow, run_newObj, World.alloc_eq]
  · simp only [Instr.buildSlice, Sem.run_bind, run_underlying (tk_sl ht), Result.andThen_ok, run_esz hn, hbig, if_false, h0, Sem.run_pure, h1, hcells, g1, newRow, run_newObj, World.alloc_eq]
end
end Go.Ab
