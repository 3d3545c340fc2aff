/- append, copy, make, literals: they go on to the store that the abstract ones tell. No conditions. -/
import Derived.Test.YtaifnpbgamookaaDoorAbU
import Derived.Laws.Append
namespace Go.Ab

theorem rep_succ (k : Nat) (z : List AV) : rep (k + 1) z = z ++ rep k z := by simp [rep, List.replicate_succ]
theorem rep_length (k : Nat) (z : List AV) : (rep k z).length = k * z.length := by
  induction k with
  | zero => simp [rep]
  | succ k ih => rw [rep_succ, List.length_append, ih, Nat.succ_mul, Nat.add_comm]
theorem VL_rep {S : Nat → Nat → Prop} {w : World} {z : List AV} {zs : List Value} (h : VL S w z zs) : ∀ k, VL S w (rep k z) (List.replicate k zs).flatten
  | 0 => by simp [rep, VL]
  | k + 1 => by rw [rep_succ, List.replicate_succ, List.flatten_cons]; exact h.append (VL_rep h k)

theorem flat_get (z : List Value) : ∀ (k i : Nat), i < k * z.length → (List.replicate k z).flatten[i]? = z[i % z.length]?
  | 0, i, h => by simp at h
  | k + 1, i, h => by
    rw [List.replicate_succ, List.flatten_cons]
    rcases Nat.lt_or_ge i z.length with hi | hi
    · rw [List.getElem?_append_left hi, Nat.mod_eq_of_lt hi]
    · rw [List.getElem?_append_right hi, flat_get z k (i - z.length) (by rw [Nat.succ_mul] at h; omega)]
      congr 1
      conv => rhs; rw [show i = (i - z.length) + z.length by omega, Nat.add_mod_right]
theorem flat_length (z : List Value) (k : Nat) : (List.replicate k z).flatten.length = k * z.length := by simp
theorem range_rep (zero : Array Value) (k : Nat) : ((Array.range (k * zero.size)).map fun i => zero[i % zero.size]!) = ((List.replicate k zero.toList).flatten).toArray := by
  apply Array.ext'
  apply List.ext_getElem?
  intro i
  rcases Nat.lt_or_ge i (k * zero.size) with hi | hi
  · have h0 : 0 < zero.size := by
      rcases Nat.eq_zero_or_pos zero.size with h | h
      · rw [h] at hi; simp at hi
      · exact h
    have hm : i % zero.size < zero.size := Nat.mod_lt _ h0
    rw [flat_get zero.toList k i (by simpa using hi)]
    simp [hi, hm]
  · rw [List.getElem?_eq_none (by simpa using hi), List.getElem?_eq_none (by simpa using hi)]

section
variable {P : Program} {Γ : G}

theorem makeA_ok (hI : Inv Γ) {t d : Nat} {l c r : AV} {s' : St} (h : makeA P t d Γ.s l c = some (r, s')) {vl vc : Value} (hl : V Γ l vl) (hc : V Γ c vc) : SemOk P (Instr.makeSlice t vl vc) Γ s' r := by
  unfold makeA at h
  split at h
  · rename_i e l c ht
    rw [V_int] at hl hc; subst hl; subst hc
    simp only [Option.bind_eq_some_iff] at h
    obtain ⟨n, hn, z, hz, h⟩ := h
    split at h
    · rename_i hb
      obtain ⟨h0, h1, h2, h3, h4⟩ := hb
      cases h
      obtain ⟨zv, hzr, rfl, hvl⟩ := zeroOf_ok hz Γ.S Γ.w
      obtain ⟨i, hi, hsz, hnp⟩ := esz_info hn
      have hzs : zv.cells.size = n := by simpa using h4
      have hby : i.bytes ≤ 65536 := by simpa [byOf, hi] using h3
      have hwl : IntKind.i64.wrap l = l := by simp [IntKind.wrap, IntKind.bits, IntKind.signed]; omega
      have hwc : IntKind.i64.wrap c = c := by simp [IntKind.wrap, IntKind.bits, IntKind.signed]; omega
      have hcells : ((Array.range (c.toNat * n)).map fun j => zv.cells[j % zv.cells.size]!) = ((List.replicate c.toNat zv.cells.toList).flatten).toArray := by
        have := range_rep zv.cells c.toNat
        rwa [hzs] at this ⊢
      have hsplit : (List.replicate c.toNat zv.cells.toList).flatten = (List.replicate l.toNat zv.cells.toList).flatten ++ (List.replicate (c.toNat - l.toNat) zv.cells.toList).flatten := by
        rw [← List.flatten_append, List.replicate_append_replicate]; congr 2; omega
      obtain ⟨hI2, hE2⟩ := hI.alloc (d := d) (t := (Γ.s d).t + 1) (by omega) ((List.replicate c.toNat zv.cells.toList).flatten).toArray e (rep l.toNat (zv.cells.toList.map ofV1)) _ (VL_rep hvl l.toNat) ((List.replicate (c.toNat - l.toNat) zv.cells.toList).flatten) (by simpa using hsplit)
      refine ⟨.slice (some ⟨Γ.w.heap.size, 0, none⟩) l.toNat c.toNat, _, ?_, rfl, hI2, hE2, ?_⟩
      · have g1 : ¬ (c < 0) := by omega
        have hlen : ¬ (281474976710656 < (i.bytes : Int) * c) := by
          have : (i.bytes : Int) * c ≤ 65536 * c := Int.mul_le_mul_of_nonneg_right (by omega) (by omega)
          omega
        have g3 : ¬ (l < 0) := by omega
        have g4 : ¬ (c < l) := by omega
        by_cases hc0 : c.toNat * n = 0
        · have hc1 : c.toNat = 0 := by
            rcases Nat.mul_eq_zero.1 hc0 with h | h
            · exact h
            · omega
          simp [Instr.makeSlice, run_underlying (tk_sl ht), asInt, asIntOf, typeInfo, hi, hwl, hwc, g1, hlen, g3, g4, run_esz hn, newRow, hc1]
          rw [show (Array.range 0) = #[] from rfl, Array.map_empty]
        · simp [Instr.makeSlice, run_underlying (tk_sl ht), asInt, asIntOf, typeInfo, hi, hwl, hwc, g1, hlen, g3, g4, run_esz hn, newRow, hc0, hzr]
          have := hcells
          rw [this]
      · refine ⟨by simp, fun ys hy => ⟨c.toNat, by simp, by omega, ?_⟩⟩
        have hy' : ys = rep l.toNat (zv.cells.toList.map ofV1) := by simp [cellsAt] at hy; exact hy.symm
        subst hy'
        rw [rep_length]
        simp [hzs]
        have : l.toNat * n + (c.toNat - l.toNat) * n = c.toNat * n := by rw [← Nat.add_mul]; congr 1; omega
        omega
    · cases h
  · cases h

/-! ### What is put behind -/
theorem SameCells.load {w w' : World} (h : ∀ b o, w'.cell? ⟨b, o, none⟩ = w.cell? ⟨b, o, none⟩) {b o : Nat} {vs : List Value} (hv : ∀ (i : Nat) (v : Value), vs[i]? = some v → w.cell? ⟨b, o + i, none⟩ = some v) :
    (loadCells ⟨b, o, none⟩ vs.length).run P w' = .ok vs.toArray w' :=
  run_loadCells_list w' ⟨b, o, none⟩ vs (fun j v hj => by rw [add_eq, h]; exact hv j v hj)

/-- The first elements of a slice or a text, in any world of the same cells. -/
def Firsts (P : Program) (Γ : G) (n k : Nat) (us : List Value) (v : Value) : Prop :=
  ∀ (k' : Nat), k' ≤ k → ∀ w', (∀ b o, w'.cell? ⟨b, o, none⟩ = Γ.w.cell? ⟨b, o, none⟩) → (Builtin.firstCells n k' v).run P w' = .ok ((us.take (k' * n)).toArray) w'
theorem Firsts.ofReads {n k : Nat} {xs : List AV} {b o cap len : Nat} (h : Reads Γ xs b o) (hl : xs.length = k * n) : ∃ us, VL Γ.S Γ.w xs us ∧ Firsts P Γ n k us (.slice (some ⟨b, o, none⟩) len cap) := by
  obtain ⟨us, h1, h2⟩ := h.vals
  refine ⟨us, h1, fun k' hk w' hw => ?_⟩
  have hlu := ((VL_iff _ _).1 h1).1
  have hle : k' * n ≤ us.length := by rw [← hlu, hl]; exact Nat.mul_le_mul_right _ hk
  have e : (us.take (k' * n)).length = k' * n := by simp; omega
  have := SameCells.load (P := P) hw (b := b) (o := o) (vs := us.take (k' * n)) (fun i v hi => h2 i v (by
    rw [List.getElem?_take] at hi; split at hi
    · exact hi
    · cases hi))
  rw [e] at this
  simpa [Builtin.firstCells] using this

/-- What append and copy put: by the slice or the text that it comes from. -/
theorem moreA_src {el n : Nat} {ty : Option TypeId} {x : AV} {ys : List AV} {k : Nat} (hI : Inv Γ) (hk : ∀ kk, ty.map (tkOf P) ≠ some (.int kk)) (h : moreA P el n ty Γ.s x = some (ys, k)) {vx : Value} (hx : V Γ x vx) :
    (∃ t d, ty = some t ∧ P.underlying t = some d ∧ ((∃ x, d = .slice x) ∨ d = .string)) ∧ ys.length = k * n ∧ (Builtin.lenOf vx).run P Γ.w = .ok k Γ.w ∧ ∃ us, VL Γ.S Γ.w ys us ∧ Firsts P Γ n k us vx := by
  unfold moreA at h
  split at h
  · rename_i kk _ e; exact absurd e (hk _)
  · rename_i e xs len g ht
    split at h
    · rename_i hl
      cases h
      cases ty with
      | none => cases ht
      | some t =>
      have htk : tkOf P t = .sl e := by simpa using ht
      obtain ⟨a, cap, rfl, _, _, hxs⟩ := sl_value hx
      refine ⟨⟨t, _, rfl, tk_sl htk, .inl ⟨_, rfl⟩⟩, hl, by simp [Builtin.lenOf], ?_⟩
      rcases hxs with ⟨rfl, rfl, rfl⟩ | ⟨b, o, rfl, hc⟩
      · exact ⟨[], VL.nil, fun k' hk' w' _ => by
          obtain rfl : k' = 0 := by omega
          cases a <;> simp [Builtin.firstCells, loadCells, loadCellsFrom]⟩
      · exact Firsts.ofReads (.ofVC hc) hl
    · cases h
  · rename_i e p t off len e' ht
    simp only [Option.bind_eq_some_iff] at h
    obtain ⟨xs, hxs, h⟩ := h
    split at h
    · rename_i hl
      obtain ⟨rfl, hl⟩ := hl
      cases h
      cases ty with
      | none => cases ht
      | some tt =>
      have htk : tkOf P tt = .sl e := by simpa using ht
      obtain ⟨cap, rfl, _⟩ := hx.2 xs hxs
      have hlen : ((xs.drop off).take (k * e')).length = k * e' := by simp; omega
      exact ⟨⟨tt, _, rfl, tk_sl htk, .inl ⟨_, rfl⟩⟩, hlen, by simp [Builtin.lenOf], Firsts.ofReads ((Reads.drop (hI.read hxs) off).take _) hlen⟩
    · cases h
  · rename_i b ht
    split at h
    · rename_i hn
      subst hn
      cases h
      cases ty with
      | none => cases ht
      | some t =>
      have htk : tkOf P t = .str := by simpa using ht
      rw [V_str] at hx; subst hx
      refine ⟨⟨t, _, rfl, tk_str htk, .inr rfl⟩, by simp [cellsOfBytes], by simp [Builtin.lenOf, size_mk], _, VL_bytes b, fun k' hk' w' _ => ?_⟩
      simp only [Builtin.firstCells, Sem.run_pure]
      congr 1
      apply Array.ext'
      simp [ByteArray.data_extract]
    · cases h
  · cases h

theorem copyA_ok (hI : Inv Γ) {at_ : Array TypeId} {x y r : AV} {s' : St} (h : copyA P at_ Γ.s x y = some (r, s')) {vx vy : Value} (hx : V Γ x vx) (hy : V Γ y vy) (ty : TypeId) :
    SemOk P (Builtin.copy_ at_ ty #[vx, vy]) Γ s' r := by
  unfold copyA at h
  split at h
  · rename_i el kk p t off len e h0 h1
    simp only [Option.bind_eq_some_iff] at h
    obtain ⟨n, hn, ⟨ys, m⟩, hm, h⟩ := h
    dsimp only at h
    have hmore : (∀ k2, at_[1]?.map (tkOf P) ≠ some (.int k2)) ∧ moreA P el n at_[1]? Γ.s y = some (ys, m) := by
      split at hm
      · exact ⟨fun k2 => by rw [h1]; simp, hm⟩
      · exact ⟨fun k2 => by rw [h1]; simp, hm⟩
      · cases hm
    obtain ⟨_, hyl, hlen, us, hus, hf⟩ := moreA_src hI hmore.1 hmore.2 hy
    split at h
    · rename_i t' xs hp
      split at h
      · rename_i hc
        obtain ⟨rfl, rfl, hl⟩ := hc
        cases h
        obtain ⟨cap, rfl, hlc, _⟩ := hx.2 xs (by simp [cellsAt, hp])
        have h0' : ∃ tt, at_[0]? = some tt ∧ P.underlying tt = some (.slice el) := by
          cases h0q : at_[0]? with
          | none => rw [h0q] at h0; cases h0
          | some tt => rw [h0q] at h0; exact ⟨tt, rfl, tk_sl (by simpa using h0)⟩
        obtain ⟨tt, h0t, h0u⟩ := h0'
        have hmin : Nat.min m len * e ≤ ys.length := by rw [hyl]; exact Nat.mul_le_mul_right _ (Nat.min_le_left _ _)
        have hmin2 : Nat.min m len * e ≤ len * e := Nat.mul_le_mul_right _ (Nat.min_le_right _ _)
        obtain ⟨Γ2, hrun, hs2, hI2, hE2⟩ := Inv.write (P := P) hI hp (off := off) (hus.take (Nat.min m len * e)) (by simp; omega)
        refine ⟨.int .i64 (Nat.min m len : Nat), Γ2, ?_, hs2, hI2, hE2, by simp [V, V0]⟩
        have hfirst := hf (Nat.min m len) (Nat.min_le_left _ _) Γ.w (fun _ _ => rfl)
        simp only [Builtin.copy_, h0t, List.getElem?_toArray, List.getElem?_cons_zero, List.getElem?_cons_succ, Sem.run_bind, run_underlying h0u, Result.andThen_ok, hlen, run_esz hn, hfirst, hrun, Sem.run_pure, goInt]
      · cases h
    · cases h
  · cases h
end
end Go.Ab
