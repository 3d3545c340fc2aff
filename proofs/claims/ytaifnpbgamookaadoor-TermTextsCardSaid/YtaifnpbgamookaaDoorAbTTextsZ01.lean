/- Several texts put together: AbQ, AbR, AbU, AbW, AbX, AbY, AbZ, AbC, AbD. Conditions: as each part says. -/
import Derived.Test.YtaifnpbgamookaaDoorAbTTextsZ00
import Derived.Laws.Append
/- Fields, places, slice expressions, lengths, conversions, loads: they yield what the abstract ones tell. No conditions. -/
namespace Go.Ab
section
variable {P : Program} {Γ : G}

theorem heldL_mem {off : Nat} {v : AV} : ∀ {hs : List (Nat × AV)}, heldL off hs = some v → (off, v) ∈ hs
  | [], h => by cases h
  | (o, x) :: r, h => by
    unfold heldL at h
    split at h
    · rename_i e; cases h; subst e; simp
    · exact List.mem_cons_of_mem _ (heldL_mem h)
theorem ldC_iff {t : Nat} {s : St} {p i off : Nat} {r : AV} (h : ldC P t (s p) i off = some r) :
    (∃ xs, cellsAt s p i = some xs ∧ partA P t xs off = some r) ∨ (∃ xs hs n, s p = ⟨i, .mix xs hs⟩ ∧ shOf P t = some (false, n) ∧ heldL off hs = some r) ∨
    ∃ xs hs n q u o len e, s p = ⟨i, .mix xs hs⟩ ∧ shOf P t = some (true, n) ∧ heldL (off + n - 1) hs = some (.own q u o len e) ∧ 1 ≤ n ∧ off + n ≤ xs.length ∧ r = .aggo ((xs.drop off).take (n - 1)) q u o len e := by
  unfold ldC at h
  split at h
  · rename_i t' xs hp
    split at h
    · rename_i e; subst e; exact .inl ⟨xs, by simp [cellsAt, hp], h⟩
    · cases h
  · rename_i t' xs hp
    split at h
    · rename_i e; subst e; exact .inl ⟨xs, by simp [cellsAt, hp], h⟩
    · cases h
  · rename_i t' xs hs hp
    split at h
    · rename_i e; subst e
      split at h
      · rename_i n hsh
        split at h
        · rename_i v hv; cases h; exact .inr (.inl ⟨xs, hs, n, hp, hsh, hv⟩)
        · exact .inl ⟨xs, by simp [cellsAt, hp], h⟩
      · rename_i n hsh
        split at h
        · rename_i q u o len e hv
          split at h
          · rename_i hc
            cases h; exact .inr (.inr ⟨xs, hs, n, q, u, o, len, e, hp, hsh, hv, hc.1, hc.2, rfl⟩)
          · cases h
        · exact .inl ⟨xs, by simp [cellsAt, hp], h⟩
      · cases h
    · cases h
  · cases h
theorem ldC_ok (hI : Inv Γ) {t p i off : Nat} {r : AV} (h : ldC P t (Γ.s p) i off = some r) {va : Value} (ha : V Γ (.ptr p i off) va) : va = .pointer (some ⟨(Γ.φ p).blk, (Γ.φ p).base + off, none⟩) ∧ PureOk P (loadVar t ⟨(Γ.φ p).blk, (Γ.φ p).base + off, none⟩) Γ r := by
  obtain ⟨_, hk⟩ := ha
  rcases ldC_iff h with ⟨xs, hx, h⟩ | ⟨xs, hs, n, hp, hsh, hh⟩ | ⟨xs, hs, n, q, u, o, len, e, hp, hsh, hh, hn, hl, rfl⟩
  · exact ⟨hk xs hx, loadVar_ok h (hI.read hx)⟩
  · refine ⟨hk xs (by simp [cellsAt, hp]), ?_⟩
    obtain ⟨_, v, h1, h2⟩ := hI.mix p i xs hs hp off r (heldL_mem hh)
    obtain ⟨h3, _⟩ := shOf_run hsh Γ.w
    refine ⟨v, ?_, h2⟩
    simp only [loadVar, Sem.run_bind, h3, Result.andThen_ok, Bool.false_eq_true, if_false, run_load, h1]
  · have hx : cellsAt Γ.s p i = some xs := by simp [cellsAt, hp]
    refine ⟨hk xs hx, ?_⟩
    obtain ⟨_, v, h1, h2⟩ := hI.mix p i xs hs hp _ _ (heldL_mem hh)
    obtain ⟨h3, h4⟩ := shOf_run hsh Γ.w
    have hc : Reads Γ xs (Γ.φ p).blk (Γ.φ p).base := hI.read hx
    obtain ⟨vs, g1, g2⟩ := ((hc.drop off).take n).vals
    have hrun : (loadCells ⟨(Γ.φ p).blk, (Γ.φ p).base + off, none⟩ n).run P Γ.w = .ok vs.toArray Γ.w := by
      have e1 : vs.length = n := by rw [← ((VL_iff _ _).1 g1).1]; simp; omega
      rw [← e1]
      exact run_loadCells_list Γ.w ⟨_, _, none⟩ vs (fun j v hj => by rw [add_eq]; exact g2 j v hj)
    have e1 : vs.length = n := by rw [← ((VL_iff _ _).1 g1).1]; simp; omega
    have hlast : vs = vs.take (n - 1) ++ [v] := by
      have hg : vs[n - 1]? = some vs[n - 1] := List.getElem?_eq_getElem (by omega)
      have h5 := g2 (n - 1) _ hg
      rw [show (Γ.φ p).base + off + (n - 1) = (Γ.φ p).base + (off + n - 1) by omega] at h5
      have h6 : vs[n - 1] = v := by
        have := h5.symm.trans h1
        simpa using this
      rw [← h6]
      have h7 := List.take_append_drop (n - 1) vs
      rw [List.drop_eq_getElem_cons (by omega), show n - 1 + 1 = vs.length by omega, List.drop_length] at h7
      exact h7.symm
    refine ⟨.agg vs.toArray, ?_, ?_⟩
    · simp only [loadVar, Sem.run_bind, h3, Result.andThen_ok, if_true, h4, hrun]; rfl
    · refine ⟨vs.take (n - 1), v, by rw [← hlast], ?_, h2.1.2, h2.1.1, h2.2⟩
      have := g1.take (n - 1)
      rwa [List.take_take, show min (n - 1) n = n - 1 by omega] at this
theorem loadA_ok (hI : Inv Γ) {t : Nat} {a r : AV} (h : loadA P t Γ.s a = some r) {va : Value} (ha : V Γ a va) : PureOk P (Instr.loadAt t va) Γ r := by
  unfold loadA at h
  split at h
  · rename_i xs
    obtain ⟨b, o, rfl, hc⟩ := (V_tree rfl).1 ha
    have := loadVar_ok (b := b) (o := o) h (.ofVC hc)
    obtain ⟨v, h1, h2⟩ := this
    exact ⟨v, by simpa [Instr.loadAt, Instr.sureAddr] using h1, h2⟩
  · rename_i p i off
    obtain ⟨rfl, v, h1, h2⟩ := ldC_ok hI h ha
    exact ⟨v, by simpa [Instr.loadAt, Instr.sureAddr] using h1, h2⟩
  · cases h

theorem run_fieldPlace {f : Field} {n : Nat} (h : esz P f.type = some n) (b o : Nat) (w : World) : (fieldPlace ⟨b, o, none⟩ f).run P w = .ok ⟨b, o + f.offset, none⟩ w := by
  have hn := (esz_info h).choose_spec.2.2
  have h0 : ¬ n = 0 := by omega
  simp [fieldPlace, run_esz h, h0, add_eq]

theorem live_iff {s : St} {p t : Nat} (h : live s p t = true) : ∃ xs, cellsAt s p t = some xs := Option.isSome_iff_exists.1 h

theorem fieldAddrA_ok {t i : Nat} {x r : AV} (h : fieldAddrA P t Γ.s x i = some r) {vx : Value} (hx : V Γ x vx) : PureOk P (Instr.fieldAt t vx i) Γ r := by
  unfold fieldAddrA at h
  split at h
  · rename_i ft o hf
    obtain ⟨fs, f, hu, hi, rfl, rfl⟩ := field_of hf
    split at h
    · rename_i n p k off he
      split at h
      · rename_i hl
        cases h
        obtain ⟨ht, hk⟩ := hx
        obtain ⟨xs, hxs⟩ := live_iff hl
        have := hk xs hxs
        subst this
        refine ⟨.pointer (some ⟨(Γ.φ p).blk, (Γ.φ p).base + off + f.offset, none⟩), ?_, ht, fun ys hy => by rw [Nat.add_assoc]⟩
        simp [Instr.fieldAt, run_underlying hu, hi, Instr.sureAddr, run_fieldPlace he]
      · cases h
    · rename_i n xs he
      cases h
      obtain ⟨b, o, rfl, hc⟩ := (V_tree rfl).1 hx
      refine ⟨.pointer (some ⟨b, o + f.offset, none⟩), ?_, (V_tree rfl).2 ⟨b, o + f.offset, rfl, hc.drop _⟩⟩
      simp [Instr.fieldAt, run_underlying hu, hi, Instr.sureAddr, run_fieldPlace he]
    · cases h
  · cases h

theorem fieldA_ok {t i : Nat} {x r : AV} (h : fieldA P t x i = some r) {vx : Value} (hx : V Γ x vx) : PureOk P (Instr.field t vx i) Γ r := by
  unfold fieldA at h
  split at h
  · rename_i ft o xs hf
    obtain ⟨fs, f, hu, hi, rfl, rfl⟩ := field_of hf
    obtain ⟨vs, rfl, hv⟩ := (V_tree rfl).1 hx
    obtain ⟨v, h1, h2⟩ := part_ok h hv
    exact ⟨v, by simp [Instr.field, run_underlying hu, hi, asAgg, h1], h2⟩
  · cases h

theorem own_value {p k off len e : Nat} {vx : Value} (hx : V Γ (.own p k off len e) vx) (hl : live Γ.s p k = true) :
    ∃ xs cap, cellsAt Γ.s p k = some xs ∧ vx = .slice (some ⟨(Γ.φ p).blk, (Γ.φ p).base + off, none⟩) len cap ∧ len ≤ cap ∧ off + cap * e ≤ xs.length + (Γ.φ p).spare ∧ k ≤ (Γ.s p).t := by
  obtain ⟨xs, hxs⟩ := live_iff hl
  obtain ⟨cap, h1, h2, h3⟩ := hx.2 xs hxs
  exact ⟨xs, cap, hxs, h1, h2, h3, hx.1.1⟩
theorem sl_value {xs : List AV} {len : Nat} {g : Grip} {vx : Value} (hx : V Γ (.sl xs len g) vx) :
    ∃ a cap, vx = .slice a len cap ∧ len ≤ cap ∧ (g = .tight ∨ g = .nil → cap = len) ∧ ((xs = [] ∧ len = 0 ∧ cap = 0) ∨ ∃ b o, a = some ⟨b, o, none⟩ ∧ VC Γ.S Γ.w xs b o) := by
  cases g with
  | tok p t =>
    obtain ⟨h0, _, _⟩ := hx
    obtain ⟨a, cap, h1, h2, _, _, h4⟩ := h0
    exact ⟨a, cap, h1, h2, by simp, h4⟩
  | tight =>
    obtain ⟨a, cap, h1, h2, h3, _, h4⟩ := (V_tree rfl).1 hx
    exact ⟨a, cap, h1, h2, fun _ => h3 rfl, h4⟩
  | loose =>
    obtain ⟨a, cap, h1, h2, h3, _, h4⟩ := (V_tree rfl).1 hx
    exact ⟨a, cap, h1, h2, fun h => by simp at h, h4⟩
  | nil =>
    obtain ⟨a, cap, h1, h2, _, ⟨_, h3⟩, h4⟩ := (V_tree rfl).1 hx
    refine ⟨a, cap, h1, h2, fun _ => ?_, h4⟩
    have := h3 rfl
    subst this
    rcases h4 with ⟨_, h5, h6⟩ | ⟨_, _, h5, _⟩
    · omega
    · cases h5

theorem indexAddrA_ok {t : Nat} {x ix r : AV} (h : indexAddrA P t Γ.s x ix = some r) {vx vi : Value} (hx : V Γ x vx) (hi : V Γ ix vi) : PureOk P (Instr.indexAt t vx vi) Γ r := by
  unfold indexAddrA at h
  split at h
  · rename_i e xs len g k i ht
    rw [V_int] at hi; subst hi
    simp only [Option.bind_eq_some_iff] at h
    obtain ⟨n, hn, h⟩ := h
    split at h
    · rename_i hb
      cases h
      obtain ⟨a, cap, rfl, hlc, _, hxs⟩ := sl_value hx
      rcases hxs with ⟨_, _, h0, _⟩ | ⟨b, o, rfl, hc⟩
      · omega
      · refine ⟨.pointer (some ⟨b, o + i.toNat * n, none⟩), ?_, (V_tree rfl).2 ⟨b, _, rfl, hc.drop _⟩⟩
        simp [Instr.indexAt, asIntOf, run_underlying (tk_sl ht), hb, run_esz hn, add_eq]
    · cases h
  · rename_i e p k off len e' ki i ht
    rw [V_int] at hi; subst hi
    simp only [Option.bind_eq_some_iff] at h
    obtain ⟨n, hn, h⟩ := h
    split at h
    · rename_i hb
      cases h
      obtain ⟨xs, cap, hxs, rfl, h1, h2, h3⟩ := own_value hx hb.1
      refine ⟨.pointer (some ⟨(Γ.φ p).blk, (Γ.φ p).base + off + i.toNat * n, none⟩), ?_, h3, fun _ _ => by rw [Nat.add_assoc]⟩
      simp [Instr.indexAt, asIntOf, run_underlying (tk_sl ht), hb.2.1, hb.2.2, run_esz hn, add_eq]
    · cases h
  · rename_i m e p k off ki i ht
    rw [V_int] at hi; subst hi
    simp only [Option.bind_eq_some_iff] at h
    obtain ⟨n, hn, h⟩ := h
    split at h
    · rename_i hb
      cases h
      obtain ⟨xs, hxs⟩ := live_iff hb.1
      have := hx.2 xs hxs
      subst this
      refine ⟨.pointer (some ⟨(Γ.φ p).blk, (Γ.φ p).base + off + i.toNat * n, none⟩), ?_, hx.1, fun _ _ => by rw [Nat.add_assoc]⟩
      simp [Instr.indexAt, asIntOf, run_underlying (tk_arr ht), hb.2.1, hb.2.2, run_esz hn, add_eq, Instr.sureAddr]
    · cases h
  · rename_i m e xs ki i ht
    rw [V_int] at hi; subst hi
    simp only [Option.bind_eq_some_iff] at h
    obtain ⟨n, hn, h⟩ := h
    split at h
    · rename_i hb
      cases h
      obtain ⟨b, o, rfl, hc⟩ := (V_tree rfl).1 hx
      refine ⟨.pointer (some ⟨b, o + i.toNat * n, none⟩), ?_, (V_tree rfl).2 ⟨b, _, rfl, hc.drop _⟩⟩
      simp [Instr.indexAt, asIntOf, run_underlying (tk_arr ht), hb, run_esz hn, add_eq, Instr.sureAddr]
    · cases h
  · cases h

theorem size_mk (l : List UInt8) : (⟨l.toArray⟩ : ByteArray).size = l.length := by simp [ByteArray.size]
theorem get_mk (l : List UInt8) (i : Nat) : (⟨l.toArray⟩ : ByteArray)[i]? = l[i]? := by
  by_cases h : i < l.length
  · rw [getElem?_pos _ _ (by rw [size_mk]; exact h), List.getElem?_eq_getElem h]
    rfl
  · rw [getElem?_neg _ _ (by rw [size_mk]; exact h), List.getElem?_eq_none (by omega)]

theorem indexA_ok {t : Nat} {x ix r : AV} (h : indexA P t x ix = some r) {vx vi : Value} (hx : V Γ x vx) (hi : V Γ ix vi) : PureOk P (Instr.index t vx vi) Γ r := by
  unfold indexA at h
  split at h
  · rename_i m e xs k i ht
    rw [V_int] at hi; subst hi
    simp only [Option.bind_eq_some_iff] at h
    obtain ⟨n, hn, h⟩ := h
    split at h
    · rename_i hb
      obtain ⟨vs, rfl, hv⟩ := (V_tree rfl).1 hx
      obtain ⟨v, h1, h2⟩ := part_ok h hv
      exact ⟨v, by simp [Instr.index, asIntOf, run_underlying (tk_arr ht), hb, run_esz hn, h1], h2⟩
    · cases h
  · rename_i b k i ht
    rw [V_int] at hi; subst hi
    rw [V_str] at hx; subst hx
    split at h
    · rename_i hb
      cases h
      refine .mk ?_ (by simp [V, V0, vOf])
      have h1 : (⟨b.toArray⟩ : ByteArray)[i.toNat]? = some (b.getD i.toNat 0) := by
        rw [get_mk, List.getElem?_eq_getElem (by omega)]
        simp [List.getD, List.getElem?_eq_getElem (show i.toNat < b.length by omega)]
      simp [Instr.index, asIntOf, run_underlying (tk_str ht), hb.1, h1, vOf]
    · cases h
  · cases h

theorem lenA_ok {t : Nat} {x r : AV} (h : lenA P t Γ.s x = some r) {vx : Value} (hx : V Γ x vx) (ty : TypeId) (at_ : Array TypeId) (hat : at_[0]? = some t) : PureOk P (Builtin.len_ at_ ty #[vx]) Γ r := by
  unfold lenA at h
  split at h
  · rename_i b ht
    rw [V_str] at hx; subst hx; cases h
    exact .mk (by simp [Builtin.len_, hat, run_underlying (tk_str ht), goInt, size_mk, vOf]) (by simp [V, V0, vOf])
  · rename_i e xs len g ht
    obtain ⟨a, cap, rfl, _⟩ := sl_value hx
    cases h
    exact .mk (by simp [Builtin.len_, hat, run_underlying (tk_sl ht), goInt, vOf]) (by simp [V, V0, vOf])
  · rename_i e p k off len e' ht
    split at h
    · rename_i hl
      cases h
      obtain ⟨xs, cap, hxs, rfl, _⟩ := own_value hx hl
      exact .mk (by simp [Builtin.len_, hat, run_underlying (tk_sl ht), goInt, vOf]) (by simp [V, V0, vOf])
    · cases h
  · rename_i n e ht
    cases h
    exact .mk (by simp [Builtin.len_, hat, run_underlying (tk_arr ht), goInt, vOf]) (by simp [V, V0, vOf])
  · cases h
end
end Go.Ab

/- Slice expressions and conversions yield what the abstract ones tell. No conditions. -/
namespace Go.Ab
section
variable {P : Program} {Γ : G}

def VO (Γ : G) : Option AV → Option Value → Prop
  | none, none => True
  | some x, some v => V Γ x v
  | _, _ => False

theorem boundA_some {x : AV} {d y n : Nat} (h : boundA (some x) d y = some n) {v : Value} (hv : V Γ x v) (c : BoundsCode) (y' : Nat) (hy : y ≤ y') (w : World) :
    (Instr.sliceBound v y' c).run P w = .ok n w ∧ n ≤ y := by
  unfold boundA at h
  split at h
  · rename_i e; cases e
  · rename_i k i e
    cases e
    split at h
    · rename_i hb
      cases h
      rw [V_int] at hv; subst hv
      have h1 : 0 ≤ i ∧ i ≤ (y' : Int) := ⟨hb.1, by omega⟩
      refine ⟨?_, by omega⟩
      simp [Instr.sliceBound, asIntOf, h1]
    · cases h
  · cases h

theorem bounds2 {b : Bool} {len cap y h' l' : Nat} {lo hi : Option AV} {lv hv : Option Value} (hy : y ≤ cap) (hly : len ≤ y) (h1 : boundA hi len y = some h') (h2 : boundA lo 0 h' = some l')
    (hl : VO Γ lo lv) (hh : VO Γ hi hv) : (Instr.sliceBounds b len cap lv hv none).run P Γ.w = .ok (l', h', cap) Γ.w ∧ l' ≤ h' ∧ h' ≤ y := by
  cases hi with
  | none =>
    cases hv with
    | some _ => exact hh.elim
    | none =>
    simp [boundA] at h1; subst h1
    cases lo with
    | none =>
      cases lv with
      | some _ => exact hl.elim
      | none =>
      simp [boundA] at h2; subst h2
      exact ⟨by simp [Instr.sliceBounds], Nat.zero_le _, hly⟩
    | some x =>
      cases lv with
      | none => exact hl.elim
      | some v =>
      obtain ⟨g1, g2⟩ := boundA_some (P := P) h2 hl .sliceB len (Nat.le_refl _) Γ.w
      exact ⟨by simp [Instr.sliceBounds, g1], g2, hly⟩
  | some x =>
    cases hv with
    | none => exact hh.elim
    | some v =>
    obtain ⟨g1, g2⟩ := boundA_some (P := P) h1 hh (if b = true then .sliceAcap else .sliceAlen) cap hy Γ.w
    cases lo with
    | none =>
      cases lv with
      | some _ => exact hl.elim
      | none =>
      simp [boundA] at h2; subst h2
      exact ⟨by simp [Instr.sliceBounds, g1], Nat.zero_le _, g2⟩
    | some x' =>
      cases lv with
      | none => exact hl.elim
      | some v' =>
      obtain ⟨g3, g4⟩ := boundA_some (P := P) h2 hl .sliceB h' (Nat.le_refl _) Γ.w
      exact ⟨by simp [Instr.sliceBounds, g1, g3], g4, g2⟩
theorem bounds3 {len cap m' h' l' : Nat} {lo hi mx : Option AV} {lv hv mv : Option Value} (hlc : len ≤ cap) (hmx : mx.isSome = true) (hhi : hi.isSome = true) (h0 : boundA mx len len = some m') (h1 : boundA hi len m' = some h') (h2 : boundA lo 0 h' = some l')
    (hl : VO Γ lo lv) (hh : VO Γ hi hv) (hm : VO Γ mx mv) : (Instr.sliceBounds true len cap lv hv mv).run P Γ.w = .ok (l', h', m') Γ.w ∧ l' ≤ h' ∧ h' ≤ m' ∧ m' ≤ len := by
  cases mx with
  | none => cases hmx
  | some x =>
  cases hi with
  | none => cases hhi
  | some y =>
  cases mv with
  | none => exact hm.elim
  | some u =>
  cases hv with
  | none => exact hh.elim
  | some v =>
  obtain ⟨f1, f2⟩ := boundA_some (P := P) h0 hm .slice3Acap cap hlc Γ.w
  obtain ⟨g1, g2⟩ := boundA_some (P := P) h1 hh .slice3B m' (Nat.le_refl _) Γ.w
  cases lo with
  | none =>
    cases lv with
    | some _ => exact hl.elim
    | none =>
    simp [boundA] at h2; subst h2
    exact ⟨by simp [Instr.sliceBounds, f1, g1], Nat.zero_le _, g2, f2⟩
  | some x' =>
    cases lv with
    | none => exact hl.elim
    | some v' =>
    obtain ⟨g3, g4⟩ := boundA_some (P := P) h2 hl .slice3C h' (Nat.le_refl _) Γ.w
    exact ⟨by simp [Instr.sliceBounds, f1, g1, g3], g4, g2, f2⟩

theorem sliceA_ok {t : Nat} {x r : AV} {lo hi mx : Option AV} (h : sliceA P t Γ.s x lo hi mx = some r) {vx : Value} {lv hv mv : Option Value} (hx : V Γ x vx) (hl : VO Γ lo lv) (hh : VO Γ hi hv) (hm : VO Γ mx mv) :
    PureOk P (Instr.sliceAt t vx lv hv mv) Γ r := by
  unfold sliceA at h
  split at h
  · -- a text
    rename_i b ht
    split at h
    · cases h
    · rename_i hmx
      have : mx = none := by simpa using hmx
      subst this
      cases mv with
      | some _ => exact hm.elim
      | none =>
      simp only [Option.bind_eq_some_iff] at h
      obtain ⟨h', h1, l', h2, h3⟩ := h
      cases h3
      rw [V_str] at hx; subst hx
      obtain ⟨g1, g2, g3⟩ := bounds2 (P := P) (b := false) (Nat.le_refl _) (Nat.le_refl _) h1 h2 hl hh
      refine .mk ?_ (by simp [V, V0, vOf])
      have e : (⟨b.toArray⟩ : ByteArray).extract l' h' = ⟨((b.take h').drop l').toArray⟩ := by
        apply ByteArray.ext
        simp [ByteArray.data_extract, List.drop_take]
      simp only [Instr.sliceAt, Sem.run_bind, run_underlying (tk_str ht), Result.andThen_ok, Instr.slice, Option.isSome_none, Bool.false_eq_true, if_false, size_mk, Sem.run_pure, g1, e, vOf]
  · -- a slice that stays
    rename_i e xs len g ht
    split at h
    · cases h
    · rename_i hmx
      simp only [Option.bind_eq_some_iff] at h
      obtain ⟨m', h0, h', h1, l', h2, n, hn, h3⟩ := h
      split at h3
      · rename_i hxl
        cases h3
        obtain ⟨a, cap, rfl, hlc, hgt, hxs⟩ := sl_value hx
        have key : ∃ mc, (Instr.sliceBounds true len cap lv hv mv).run P Γ.w = .ok (l', h', mc) Γ.w ∧ l' ≤ h' ∧ h' ≤ len ∧ h' ≤ mc ∧ (mx.isSome = true → mc = m') ∧ (mx = none → mc = cap) ∧ (cap = 0 → mc = 0) := by
          cases mx with
          | none =>
            cases mv with
            | some _ => exact hm.elim
            | none =>
            simp [boundA] at h0; subst h0
            obtain ⟨g1, g2, g3⟩ := bounds2 (P := P) (b := true) hlc (Nat.le_refl _) h1 h2 hl hh
            exact ⟨cap, g1, g2, g3, by omega, by simp, fun _ => rfl, fun h => h⟩
          | some y =>
            have hhi : hi.isSome = true := by
              cases hi with
              | none => simp at hmx
              | some _ => rfl
            obtain ⟨g1, g2, g3, g4⟩ := bounds3 (P := P) hlc rfl hhi h0 h1 h2 hl hh hm
            exact ⟨m', g1, g2, by omega, g3, fun _ => rfl, by simp, by omega⟩
        obtain ⟨mc, g1, g2, g3, g4, g5, g6, g7⟩ := key
        refine ⟨.slice (if mc = l' then a else a.map (·.add (l' * n))) (h' - l') (mc - l'), ?_, V_cell ⟨_, mc - l', rfl, by omega, ?_, ?_, ?_⟩⟩
        · simp only [Instr.sliceAt, Sem.run_bind, run_underlying (tk_sl ht), Result.andThen_ok, Instr.slice, g1, Sem.run_pure, run_esz hn]
        · intro htg
          split at htg
          · rename_i hc
            rcases hc with ⟨hc1, hc2⟩ | ⟨hc1, hc2, hc3⟩
            · have := g5 hc1; omega
            · have h5 := hgt hc2; have h6 := g6 hc1; omega
          · cases htg
        · split <;> exact ⟨rfl, by simp⟩
        · rcases hxs with ⟨rfl, rfl, rfl⟩ | ⟨b, o, rfl, hc⟩
          · have := g7 rfl
            exact .inl ⟨by simp, by omega, by omega⟩
          · refine .inr ?_
            by_cases hml : mc = l'
            · refine ⟨b, o, by simp [hml], ?_⟩
              have : (xs.take (h' * n)).drop (l' * n) = [] := by
                apply List.drop_eq_nil_of_le
                have : h' = l' := by omega
                subst this
                simp; exact Nat.min_le_left _ _
              rw [this]; simp only [VC]
            · exact ⟨b, o + l' * n, by simp [hml, add_eq], (hc.take _).drop _⟩
      · cases h3
  · -- a slice of which what is behind is known
    rename_i e xs len ht
    split at h
    · cases h
    · rename_i hmx
      have hmx' : mx = none := by
        cases mx with
        | none => rfl
        | some _ => simp at hmx
      subst hmx'
      cases mv with
      | some _ => exact hm.elim
      | none =>
      simp only [Option.bind_eq_some_iff] at h
      obtain ⟨h', h1, l', h2, n, hn, h3⟩ := h
      split at h3
      · rename_i hc
        obtain ⟨rfl, hll⟩ := hc
        cases h3
        obtain ⟨b, o, cap, rfl, hlx, hxc, hc⟩ := (show ∃ b o cap, vx = .slice (some ⟨b, o, none⟩) len cap ∧ len ≤ xs.length ∧ xs.length ≤ cap ∧ VC Γ.S Γ.w xs b o by simpa only [V, V0] using hx)
        have key : (Instr.sliceBounds true len cap lv hv none).run P Γ.w = .ok (l', h', cap) Γ.w ∧ l' ≤ h' ∧ h' ≤ xs.length := by
          cases hi with
          | none =>
            cases hv with
            | some _ => exact hh.elim
            | none =>
            have e : h' = len := by simpa [boundA] using h1.symm
            subst e
            obtain ⟨g1, g2, g3⟩ := bounds2 (P := P) (b := true) (hi := none) (hv := none) (Nat.le_trans hlx hxc) (Nat.le_refl _) (by rfl) h2 hl trivial
            exact ⟨g1, g2, hlx⟩
          | some y =>
            cases hv with
            | none => exact hh.elim
            | some v =>
            obtain ⟨g1, g2⟩ := boundA_some (P := P) h1 hh .sliceAcap cap hxc Γ.w
            cases lo with
            | none =>
              cases lv with
              | some _ => exact hl.elim
              | none =>
              simp [boundA] at h2; subst h2
              exact ⟨by simp [Instr.sliceBounds, g1], Nat.zero_le _, g2⟩
            | some x' =>
              cases lv with
              | none => exact hl.elim
              | some v' =>
              obtain ⟨g3, g4⟩ := boundA_some (P := P) h2 hl .sliceB h' (Nat.le_refl _) Γ.w
              exact ⟨by simp [Instr.sliceBounds, g1, g3], g4, g2⟩
        obtain ⟨g1, g2, g3⟩ := key
        have hne : ¬ cap = l' := by omega
        refine ⟨.slice (some ⟨b, o + l' * 1, none⟩) (h' - l') (cap - l'), ?_, V_cell ⟨_, cap - l', rfl, by omega, by simp, ⟨rfl, by simp⟩, .inr ⟨b, o + l', by simp, ?_⟩⟩⟩
        · simp only [Instr.sliceAt, Sem.run_bind, run_underlying (tk_sl ht), Result.andThen_ok, Instr.slice, g1, Sem.run_pure, run_esz hn, hne, if_false, Option.map_some, add_eq]
        · have := (hc.take h').drop l'
          exact this
      · cases h3
  · -- a slice of a block that may be written
    rename_i e p k off len e' ht
    split at h
    · cases h
    · rename_i hmx
      have hmx' : mx = none ∧ live Γ.s p k = true := by
        constructor
        · cases mx with
          | none => rfl
          | some _ => simp at hmx
        · simpa using fun hq => hmx (.inr hq)
      obtain ⟨rfl, hlv⟩ := hmx'
      cases mv with
      | some _ => exact hm.elim
      | none =>
      simp only [Option.bind_eq_some_iff] at h
      obtain ⟨h', h1, l', h2, n, hn, h3⟩ := h
      split at h3
      · rename_i hc
        obtain ⟨rfl, hll⟩ := hc
        cases h3
        obtain ⟨xs, cap, hxs, rfl, hlc, hcap, hser⟩ := own_value hx hlv
        obtain ⟨g1, g2, g3⟩ := bounds2 (P := P) (b := true) hlc (Nat.le_refl _) h1 h2 hl hh
        have hne : ¬ cap = l' := by omega
        refine ⟨.slice (some ⟨(Γ.φ p).blk, (Γ.φ p).base + off + l' * e', none⟩) (h' - l') (cap - l'), ?_, ⟨hser, rfl⟩, fun ys hy => ⟨cap - l', by rw [Nat.add_assoc], by omega, ?_⟩⟩
        · simp only [Instr.sliceAt, Sem.run_bind, run_underlying (tk_sl ht), Result.andThen_ok, Instr.slice, g1, Sem.run_pure, run_esz hn, hne, if_false, Option.map_some, add_eq]
        · have : ys = xs := by rw [hxs] at hy; cases hy; rfl
          subst this
          have h5 : l' * e' + (cap - l') * e' = cap * e' := by rw [← Nat.add_mul]; congr 1; omega
          omega
      · cases h3
  · -- a slice of an array
    rename_i m e p k off ht
    split at h
    · cases h
    · rename_i hmx
      have : mx = none := by simpa using hmx
      subst this
      cases mv with
      | some _ => exact hm.elim
      | none =>
      simp only [Option.bind_eq_some_iff] at h
      obtain ⟨h', h1, l', h2, n, hn, xs, hxs, h3⟩ := h
      split at h3
      · rename_i hc
        cases h3
        have := hx.2 xs hxs
        subst this
        obtain ⟨g1, g2, g3⟩ := bounds2 (P := P) (b := false) (Nat.le_refl _) (Nat.le_refl _) h1 h2 hl hh
        have hne : ¬ m = l' := by omega
        refine ⟨.slice (some ⟨(Γ.φ p).blk, (Γ.φ p).base + off + l' * n, none⟩) (h' - l') (m - l'), ?_, ⟨hx.1, rfl⟩, fun ys hy => ⟨m - l', by rw [Nat.add_assoc], by omega, ?_⟩⟩
        · simp only [Instr.sliceAt, Sem.run_bind, run_underlying (tk_arr ht), Result.andThen_ok, Instr.sureAddr, g1, Sem.run_pure, run_esz hn, hne, if_false, add_eq]
        · have : ys = xs := by rw [hxs] at hy; cases hy; rfl
          subst this
          have h5 : l' * n + (m - l') * n = m * n := by rw [← Nat.add_mul]; congr 1; omega
          omega
      · cases h3
  · cases h

theorem sliceW_ok {t : Nat} {x r : AV} {lo hi mx : Option AV} (h : sliceW P t x lo hi mx = some r) {vx : Value} {lv hv mv : Option Value} (hx : V Γ x vx) (hl : VO Γ lo lv) (hh : VO Γ hi hv) (hm : VO Γ mx mv) :
    PureOk P (Instr.sliceAt t vx lv hv mv) Γ r := by
  unfold sliceW at h
  split at h
  · rename_i e xs len g ht
    split at h
    · cases h
    · rename_i hmx
      have hmx' : mx = none ∧ lo = none := by
        cases mx with
        | none => cases lo with
          | none => exact ⟨rfl, rfl⟩
          | some _ => simp at hmx
        | some _ => simp at hmx
      obtain ⟨rfl, rfl⟩ := hmx'
      cases mv with
      | some _ => exact hm.elim
      | none =>
      cases lv with
      | some _ => exact hl.elim
      | none =>
      simp only [Option.bind_eq_some_iff] at h
      obtain ⟨h', h1, n, hn, h3⟩ := h
      split at h3
      · rename_i hc
        obtain ⟨rfl, hxl, hpos⟩ := hc
        cases h3
        obtain ⟨a, cap, rfl, hlc, hgt, hxs⟩ := sl_value hx
        obtain ⟨g1, g2, g3⟩ := bounds2 (P := P) (b := true) (lo := none) (lv := none) (l' := 0) hlc (Nat.le_refl _) h1 rfl trivial hh
        rcases hxs with ⟨rfl, h0, _⟩ | ⟨b, o, rfl, hcells⟩
        · omega
        · have hne : ¬ cap = 0 := by omega
          refine ⟨.slice (some ⟨b, o + 0 * 1, none⟩) (h' - 0) (cap - 0), ?_, b, o, cap, rfl, ?_, by omega, hcells⟩
          · simp only [Instr.sliceAt, Sem.run_bind, run_underlying (tk_sl ht), Result.andThen_ok, Instr.slice, g1, Sem.run_pure, run_esz hn, hne, if_false, Option.map_some, add_eq]
          · omega
      · cases h3
  · cases h
theorem sliceY_ok {t : Nat} {w : Bool} {x r : AV} {lo hi mx : Option AV} (h : sliceY P w t Γ.s x lo hi mx = some r) {vx : Value} {lv hv mv : Option Value} (hx : V Γ x vx) (hl : VO Γ lo lv) (hh : VO Γ hi hv) (hm : VO Γ mx mv) :
    PureOk P (Instr.sliceAt t vx lv hv mv) Γ r := by
  unfold sliceY at h
  split at h
  · exact sliceW_ok h hx hl hh hm
  · exact sliceA_ok h hx hl hh hm

theorem VL_bytes {S : Nat → Nat → Prop} {w : World} : ∀ (l : List UInt8), VL S w (cellsOfBytes l) (l.map fun b => Value.int .u8 b.toNat)
  | [] => VL.nil
  | b :: l => by simp only [cellsOfBytes, List.map_cons, VL]; exact ⟨_, _, rfl, rfl, by simp [V0], VL_bytes l⟩

theorem bytesOf_vals {S : Nat → Nat → Prop} {w : World} : ∀ (xs : List AV) (l : List UInt8) (vs : List Value), bytesOf xs = some l → VL S w xs vs → ∃ ns : List Int, vs = ns.map (Value.int .u8) ∧ l = ns.map fun n => UInt8.ofNat n.toNat
  | [], l, vs, h, hv => by
    simp [bytesOf] at h; subst h
    simp [VL] at hv; subst hv
    exact ⟨[], rfl, rfl⟩
  | x :: xs, l, vs, h, hv => by
    unfold bytesOf at h
    split at h
    · rename_i e; cases e
    · rename_i n r e
      cases e
      cases hr : bytesOf xs with
      | none => rw [hr] at h; cases h
      | some l' =>
        rw [hr] at h; cases h
        simp only [VL] at hv
        obtain ⟨v, r, rfl, _, h0, hr'⟩ := hv
        simp only [V0] at h0; subst h0
        obtain ⟨ns, rfl, rfl⟩ := bytesOf_vals xs l' r hr hr'
        exact ⟨n :: ns, rfl, rfl⟩
    · cases h

theorem foldl_push (ns : List Int) : ∀ s : ByteArray, ns.foldl (fun r n => r.push (UInt8.ofNat n.toNat)) s = ⟨(s.data.toList ++ ns.map fun n => UInt8.ofNat n.toNat).toArray⟩ := by
  induction ns with
  | nil => intro s; simp
  | cons n ns ih => intro s; simp only [List.foldl_cons, ih, List.map_cons]; simp [ByteArray.push]

theorem run_toString {xs : List AV} {l : List UInt8} {b o len cap : Nat} (hr : Reads Γ xs b o) (hl : xs.length = len) (hb : bytesOf xs = some l) :
    (Conv.bytesToString (.slice (some ⟨b, o, none⟩) len cap)).run P Γ.w = .ok (.string ⟨l.toArray⟩) Γ.w := by
  obtain ⟨vs, hv, hrun⟩ := hr.load (P := P)
  obtain ⟨ns, rfl, rfl⟩ := bytesOf_vals xs l vs hb hv
  rw [hl] at hrun
  have hlen : ns.length = len := by have := ((VL_iff _ _).1 hv).1; simp at this; omega
  rw [run_bytesToString Γ.w ⟨b, o, none⟩ len cap ns (by simpa using hrun)]
  rw [foldl_push]
  simp

theorem run_markStringish (w : World) (c : Array Value) (t : TypeId) (b : Nat) (hb : w.heap[b]? = some (.cells c t)) :
    ∃ w', (markStringish ⟨b, 0, none⟩).run P w = .ok () w' ∧ w'.os = w.os ∧ w'.tape = w.tape ∧ w'.output = w.output ∧ w'.heap.size = w.heap.size ∧ (∀ k, k ≠ b → w'.heap[k]? = w.heap[k]?) ∧ ∀ i, w'.cell? ⟨b, i, none⟩ = w.cell? ⟨b, i, none⟩ := by
  refine ⟨w.freeze { block := b, off := c.size } 1, ?_, ?_⟩
  · have hs : w.shape? b = some (t, c.size) := by simp [World.shape?, hb]
    simp [markStringish, hs]
  · refine ⟨rfl, rfl, rfl, by simp [World.freeze], fun k hk => ?_, fun i => ?_⟩
    · simp [World.freeze, Array.getElem?_modify, Ne.symm hk]
    · simp [World.freeze, World.cell?, Array.getElem?_modify, hb]

theorem convA_ok (hI : Inv Γ) {src dst : Nat} {x r : AV} (h : convA P src dst Γ.s x = some r) {vx : Value} (hx : V Γ x vx) : SemOk P (convert src dst vx) Γ Γ.s r := by
  unfold convA at h
  split at h
  · rename_i k0 k k1 n h1 h2
    rw [V_int] at hx; subst hx; cases h
    exact PureOk.sem (.mk (by simp [convert, run_underlying (tk_int h1), run_underlying (tk_int h2), Conv.intToInt, vOf]) (by simp [V, V0, vOf])) hI
  · rename_i b h1 h2
    rw [V_str] at hx; subst hx; cases h
    exact PureOk.sem (.mk (by simp [convert, run_underlying (tk_str h1), run_underlying (tk_str h2), vOf]) (by simp [V, V0, vOf])) hI
  · rename_i e b h1 h2
    split at h
    · rename_i h3
      split at h
      · rename_i hb
        cases h
        rw [V_str] at hx; subst hx
        let cap := (Question.appendCap b.length 0 e).cut (Γ.w.tape Γ.w.drawn (.appendCap b.length 0 e))
        have hcap : b.length ≤ cap := by simp only [cap, Question.cut]; omega
        let arr : Array Value := (List.map (fun b => Value.int .u8 b.toNat) b).toArray ++ Array.replicate (cap - b.length) (.int .u8 0)
        let w1 : World := Γ.w.drew.alloc (.cells arr e)
        obtain ⟨w', hrun, g1, g2, g3, g4, g5, g6⟩ := run_markStringish (P := P) w1 arr e Γ.w.heap.size (by show (Γ.w.heap.push _)[Γ.w.heap.size]? = _; simp)
        have hold : ∀ k, k < Γ.w.heap.size → w'.heap[k]? = Γ.w.heap[k]? := fun k hk => by
          rw [g5 k (by omega)]
          show (Γ.w.heap.push _)[k]? = _
          rw [Array.getElem?_push, if_neg (by omega)]
        obtain ⟨Γ', hs, hw, hI', hE, hvc⟩ := hI.row (w' := w') g1 g2 g3 (by rw [g4]; simp [w1]) hold (cellsOfBytes b) _ (VL_bytes b) (fun i v hv => by
          rw [g6 i]
          show (Γ.w.drew.alloc _).cell? ⟨Γ.w.drew.heap.size, i, none⟩ = _
          rw [World.cell?_alloc_new]
          have hi : i < b.length := by
            rcases Nat.lt_or_ge i b.length with h' | h'
            · exact h'
            · rw [List.getElem?_eq_none (by simpa using h')] at hv; cases hv
          simp only [arr]
          rw [Array.getElem?_append_left (by simpa using hi)]
          simpa using hv)
        refine ⟨.slice (some ⟨Γ.w.heap.size, 0, none⟩) b.length cap, Γ', ?_, hs, hI', hE, V_cell ⟨_, cap, rfl, hcap, by simp, ⟨rfl, by simp⟩, .inr ⟨Γ.w.heap.size, 0, rfl, hvc⟩⟩⟩
        rw [hw]
        have hnr : (newRow e arr).run P Γ.w.drew = .ok ⟨Γ.w.heap.size, 0, none⟩ w1 := by simp [newRow]; rfl
        simp [convert, run_underlying (tk_str h1), run_underlying (tk_sl h2), run_underlying (tk_int h3), Conv.stringToBytes, size_mk, Question.forced]
        show ((newRow e arr).run P Γ.w.drew).andThen _ = _
        rw [hnr]
        simp only [Result.andThen_ok, hrun]
        rfl
      · cases h
    · cases h
  · rename_i e xs len g h1 h2
    split at h
    · rename_i h3
      split at h
      · rename_i hl
        cases hb : bytesOf xs with
        | none => rw [hb] at h; cases h
        | some l =>
          rw [hb] at h; cases h
          obtain ⟨a, cap, rfl, _, _, hxs⟩ := sl_value hx
          refine PureOk.sem (.mk ?_ (by simp [V, V0, vOf])) hI
          rcases hxs with ⟨rfl, rfl, rfl⟩ | ⟨b, o, rfl, hc⟩
          · simp [bytesOf] at hb; subst hb
            cases a <;> simp [convert, run_underlying (tk_sl h1), run_underlying (tk_str h2), run_underlying (tk_int h3), Conv.bytesToString, loadCells, loadCellsFrom, vOf] <;> rfl
          · simp [convert, run_underlying (tk_sl h1), run_underlying (tk_str h2), run_underlying (tk_int h3), run_toString (.ofVC hc) hl hb, vOf]
      · cases h
    · cases h
  · rename_i e p k off len e' h1 h2
    split at h
    · rename_i h3
      simp only [Option.bind_eq_some_iff] at h
      obtain ⟨xs, hxs, h⟩ := h
      split at h
      · rename_i hl
        cases hb : bytesOf ((xs.drop off).take len) with
        | none => rw [hb] at h; cases h
        | some l =>
          rw [hb] at h; cases h
          obtain ⟨cap, rfl, _⟩ := hx.2 xs hxs
          refine PureOk.sem (.mk ?_ (by simp [V, V0, vOf])) hI
          have hr : Reads Γ ((xs.drop off).take len) (Γ.φ p).blk ((Γ.φ p).base + off) := (Reads.drop (hI.read hxs) off).take len
          simp [convert, run_underlying (tk_sl h1), run_underlying (tk_str h2), run_underlying (tk_int h3), run_toString (len := len) hr (by simp; omega) hb, vOf]
      · cases h
    · cases h
  · cases h
end
end Go.Ab

/- Stores, new variables: they go on to the store that the abstract ones tell. No conditions. -/
namespace Go.Ab
section
variable {P : Program} {Γ : G}

def Quiet (Γ : G) (s' : St) (Γ' : G) : Prop := Γ'.w = Γ.w ∧ Γ'.s = s' ∧ Inv Γ' ∧ Ext Γ Γ'

theorem cellOk_one {S : Nat → Nat → Prop} {w : World} {x : AV} {v : Value} (hc : cellOk x = true) (h : V0 S w x v) : v.oneCell' = true ∧ v.cells = #[v] := by
  cases x <;> simp [cellOk] at hc <;> simp only [V0] at h
  · subst h; exact ⟨rfl, rfl⟩
  · subst h; exact ⟨rfl, rfl⟩
  · subst h; exact ⟨rfl, rfl⟩
  · obtain ⟨_, _, rfl, _⟩ := h; exact ⟨rfl, rfl⟩
  · obtain ⟨_, _, rfl, _⟩ := h; exact ⟨rfl, rfl⟩
  · subst h; exact ⟨rfl, rfl⟩
  · obtain ⟨_, rfl, _⟩ := h; exact ⟨rfl, rfl⟩
  · subst h; exact ⟨rfl, rfl⟩
theorem VL_one {S : Nat → Nat → Prop} {w : World} {x : AV} {v : Value} (hc : cellOk x = true) (h : V0 S w x v) : VL S w [x] [v] := by
  simp only [VL]; exact ⟨v, [], rfl, (cellOk_one hc h).1, h, rfl⟩
theorem settleO_ok (hI : Inv Γ) {p k off len e : Nat} {s' : St} {vv : Value} (hv : V Γ (.own p k off len e) vv) {xs : List AV} (hl : off + len * e ≤ xs.length)
    (h : (Γ.s p = ⟨k, .buf xs⟩ ∧ s' = upd Γ.s p ⟨k, .frz xs⟩) ∨ (Γ.s p = ⟨k, .frz xs⟩ ∧ s' = Γ.s)) : ∃ Γ', Quiet Γ s' Γ' ∧ V0 Γ'.S Γ'.w (.sl ((xs.drop off).take (len * e)) len .loose) vv := by
  rcases h with ⟨hp, rfl⟩ | ⟨hp, rfl⟩
  · obtain ⟨hI', hE⟩ := hI.freeze hp
    refine ⟨{ Γ with s := upd Γ.s p ⟨k, .frz xs⟩, S := fun b o => Γ.S b o ∨ (b = (Γ.φ p).blk ∧ (Γ.φ p).base ≤ o ∧ o < (Γ.φ p).base + xs.length) }, ⟨rfl, rfl, hI', hE⟩, ?_⟩
    obtain ⟨cap, rfl, hlc, _⟩ := hv.2 xs (by simp [cellsAt, hp])
    have he := hI'.ent p
    unfold EntOk at he
    simp only [upd_same, EntC] at he
    exact ⟨_, cap, rfl, hlc, by simp, ⟨rfl, by simp⟩, .inr ⟨_, _, rfl, (he.drop off).take _⟩⟩
  · refine ⟨Γ, ⟨rfl, rfl, hI, .refl _⟩, ?_⟩
    obtain ⟨cap, rfl, hlc, _⟩ := hv.2 xs (by simp [cellsAt, hp])
    have he := hI.ent p
    unfold EntOk at he
    rw [hp] at he
    simp only [EntC] at he
    exact ⟨_, cap, rfl, hlc, by simp, ⟨rfl, by simp⟩, .inr ⟨_, _, rfl, (he.drop off).take _⟩⟩
theorem settle_ok (hI : Inv Γ) {v v' : AV} {s' : St} (h : settle Γ.s v = some (v', s')) {vv : Value} (hv : V Γ v vv) : ∃ Γ', Quiet Γ s' Γ' ∧ V0 Γ'.S Γ'.w v' vv := by
  unfold settle at h
  split at h
  · rename_i p t off len e
    split at h
    · rename_i t' xs hp
      split at h
      · rename_i hc
        obtain ⟨rfl, hl⟩ := hc
        cases h
        exact settleO_ok hI hv hl (.inl ⟨hp, rfl⟩)
      · cases h
    · rename_i t' xs hp
      split at h
      · rename_i hc
        obtain ⟨rfl, hl⟩ := hc
        cases h
        exact settleO_ok hI hv hl (.inr ⟨hp, rfl⟩)
      · cases h
    · cases h
  · cases h
    exact ⟨Γ, ⟨rfl, rfl, hI, .refl _⟩, hv.1⟩
  · cases h
  · cases h
  · cases h
  · rename_i pre p t off len e
    obtain ⟨us, u, rfl, hr, ho, ht, hk⟩ := hv
    have hu : V Γ (.own p t off len e) u := ⟨⟨ht, ho⟩, hk⟩
    have fin : ∀ {y : AV} {s1 : St}, (∃ Γ', Quiet Γ s1 Γ' ∧ V0 Γ'.S Γ'.w y u) → cellOk y = true → ∃ Γ', Quiet Γ s1 Γ' ∧ V0 Γ'.S Γ'.w (.agg (pre ++ [y])) (.agg (us ++ [u]).toArray) := by
      intro y s1 ⟨Γ', hq, hy⟩ hc
      refine ⟨Γ', hq, ?_⟩
      obtain ⟨hw, hs, hI', hE⟩ := hq
      show V0 Γ'.S Γ'.w (.agg (pre ++ [y])) (.agg (us ++ [u]).toArray)
      exact ⟨us ++ [u], rfl, (VL.mono hE.stays _ _ hr).append (VL_one hc hy)⟩
    split at h
    · rename_i t' xs hp
      split at h
      · rename_i hc
        obtain ⟨rfl, hl⟩ := hc
        cases h
        exact fin (settleO_ok hI hu hl (.inl ⟨hp, rfl⟩)) rfl
      · cases h
    · rename_i t' xs hp
      split at h
      · rename_i hc
        obtain ⟨rfl, hl⟩ := hc
        cases h
        exact fin (settleO_ok hI hu hl (.inr ⟨hp, rfl⟩)) rfl
      · cases h
    · cases h
  · rename_i h1 h2 h3 h4 h6 h5
    cases h
    refine ⟨Γ, ⟨rfl, rfl, hI, .refl _⟩, hv.to0 ?_⟩
    unfold isTree
    split
    · exact absurd rfl (h1 _ _ _ _ _)
    · exact absurd rfl (h3 _ _ _)
    · exact absurd rfl (h4 _ _ _ _ _ _)
    · exact absurd rfl (h5 _ _ _ _ _ _)
    · exact absurd rfl (h6 _ _)
    · exact absurd rfl (h2 _ _ _ _)
    · rfl

theorem settled_ok {v v' : AV} (h : settled v = some v') {vv : Value} (hv : V Γ v vv) : V0 Γ.S Γ.w v' vv := by
  unfold settled at h
  split at h
  · cases h
  · cases h
  · cases h
  · cases h
  · cases h
  · cases h; exact hv.1
  · rename_i h1 h2 h3 h4 h6 h5
    cases h
    refine hv.to0 ?_
    unfold isTree
    split
    · exact absurd rfl (h1 _ _ _ _ _)
    · exact absurd rfl (h2 _ _ _)
    · exact absurd rfl (h3 _ _ _ _ _ _)
    · exact absurd rfl (h4 _ _ _ _ _ _)
    · exact absurd rfl (h6 _ _)
    · exact absurd rfl (h5 _ _ _ _)
    · rfl

theorem cellsOf_ok {S : Nat → Nat → Prop} {w : World} {x : AV} {xs : List AV} {v : Value} (hx : cellsOf x = some xs) (h : V0 S w x v) : ∃ vs : List Value, v.cells = vs.toArray ∧ VL S w xs vs := by
  unfold cellsOf at hx
  split at hx
  · cases hx
    obtain ⟨vs, rfl, hv⟩ := h
    exact ⟨vs, rfl, hv⟩
  · split at hx
    · rename_i hc
      cases hx
      exact ⟨[v], (cellOk_one hc h).2, VL_one hc h⟩
    · cases hx

theorem splice_length {xs ys : List AV} {off : Nat} (h : off + ys.length ≤ xs.length) : (splice xs off ys).length = xs.length := by
  simp [splice]; omega
theorem splice_get {xs ys : List AV} {off : Nat} (h : off + ys.length ≤ xs.length) (i : Nat) : (splice xs off ys)[i]? = if i < off then xs[i]? else if i < off + ys.length then ys[i - off]? else xs[i]? := by
  unfold splice
  have hlt : (xs.take off).length = off := by simp; omega
  split
  · rename_i h1
    rw [List.append_assoc, List.getElem?_append_left (by omega), List.getElem?_take, if_pos h1]
  · rename_i h1
    split
    · rename_i h2
      rw [List.append_assoc, List.getElem?_append_right (by omega), List.getElem?_append_left (by omega), hlt]
    · rename_i h2
      rw [List.append_assoc, List.getElem?_append_right (by omega), List.getElem?_append_right (by omega), hlt, List.getElem?_drop]
      congr 1; omega

theorem VL.oneCells {S : Nat → Nat → Prop} {w : World} {xs : List AV} {vs : List Value} (h : VL S w xs vs) : ∀ v ∈ vs, v.oneCell' = true := fun v hv => by
  obtain ⟨i, hi⟩ := List.mem_iff_getElem?.1 hv
  have hl := ((VL_iff _ _).1 h).1
  have hlt : i < vs.length := by
    rcases Nat.lt_or_ge i vs.length with h' | h'
    · exact h'
    · rw [List.getElem?_eq_none h'] at hi; cases hi
  obtain ⟨u, h1, h2, _⟩ := ((VL_iff _ _).1 h).2 i xs[i] (List.getElem?_eq_getElem (by omega))
  rw [hi] at h1; cases h1
  exact h2

theorem Inv.write (hI : Inv Γ) {p t off : Nat} {xs ys : List AV} (hp : Γ.s p = ⟨t, .buf xs⟩) {vs : List Value} (hv : VL Γ.S Γ.w ys vs) (hl : off + ys.length ≤ xs.length) :
    ∃ Γ', (storeCells ⟨(Γ.φ p).blk, (Γ.φ p).base + off, none⟩ vs 0).run P Γ.w = .ok () Γ'.w ∧ Γ'.s = upd Γ.s p ⟨t, .buf (splice xs off ys)⟩ ∧ Inv Γ' ∧ Ext Γ Γ' := by
  have hlen := ((VL_iff _ _).1 hv).1
  have he := hI.ent p
  unfold EntOk at he
  rw [hp] at he
  obtain ⟨h1, h2, h3, _⟩ := he
  obtain ⟨w', hrun, hw, hcell⟩ := run_storeCells P (Γ.φ p).blk vs ((Γ.φ p).base + off) 0 Γ.w hv.oneCells (fun j hj => by
    obtain ⟨v, hv', _⟩ := h3 (off + j) xs[off + j] (List.getElem?_eq_getElem (by omega))
    exact ⟨⟨v, by rw [Nat.add_zero, Nat.add_assoc]; exact hv'⟩, h2 _⟩)
  rw [Nat.add_zero] at hw
  obtain ⟨hI', hE⟩ := hI.store (xs' := splice xs off ys) hp (w' := w') hw (splice_length hl) (fun i x hx => by
    rw [splice_get hl] at hx
    split at hx
    · obtain ⟨v, g1, g2, g3⟩ := h3 i x hx
      exact ⟨v, by rw [hw.cell _ (.inl (by omega))]; exact g1, g2, g3⟩
    · rename_i hi
      split at hx
      · obtain ⟨v, g1, g2, g3⟩ := ((VL_iff _ _).1 hv).2 (i - off) x hx
        refine ⟨v, ?_, g2, g3⟩
        have := hcell (i - off) v g1
        rwa [Nat.add_zero, show (Γ.φ p).base + off + (i - off) = (Γ.φ p).base + i by omega] at this
      · obtain ⟨v, g1, g2, g3⟩ := h3 i x hx
        exact ⟨v, by rw [hw.cell _ (.inr (by omega))]; exact g1, g2, g3⟩) (by omega)
  exact ⟨_, hrun, rfl, hI', hE⟩

theorem set_splice {xs : List AV} {off : Nat} {v : AV} (h : off < xs.length) : xs.set off v = splice xs off [v] := by
  unfold splice
  rw [List.set_eq_take_append_cons_drop, if_pos h]
  simp

def UnitOk (P : Program) (m : Sem Unit) (Γ : G) (s' : St) : Prop := ∃ Γ', m.run P Γ.w = .ok () Γ'.w ∧ Γ'.s = s' ∧ Inv Γ' ∧ Ext Γ Γ'

theorem storeA_ok (hI : Inv Γ) {t : Nat} {a v : AV} {s' : St} (h : storeA P t Γ.s a v = some s') {va vv : Value} (ha : V Γ a va) (hv : V Γ v vv) : UnitOk P (Instr.storeAt t va vv) Γ s' := by
  unfold storeA at h
  split at h
  · rename_i p i off
    simp only [Option.bind_eq_some_iff] at h
    obtain ⟨⟨v1, s1⟩, hs, h⟩ := h
    obtain ⟨Γ1, ⟨hw1, rfl, hI1, hE1⟩, hv1⟩ := settle_ok hI hs hv
    dsimp only at h
    split at h
    · rename_i t' xs hp
      split at h
      · rename_i ht
        subst ht
        have ha1 := (V.ext hE1 ha).2 xs (by simp [cellsAt, hp])
        subst ha1
        have go : ∀ (ys : List AV) (vs : List Value), vv.cells = vs.toArray → VL Γ1.S Γ1.w ys vs → esz P t = some ys.length → off + ys.length ≤ xs.length →
            s' = upd Γ1.s p ⟨t', .buf (splice xs off ys)⟩ → UnitOk P (Instr.storeAt t (.pointer (some ⟨(Γ1.φ p).blk, (Γ1.φ p).base + off, none⟩)) vv) Γ s' := by
          intro ys vs hc hvl hsz hl he
          obtain ⟨Γ2, hrun, hs2, hI2, hE2⟩ := Inv.write (P := P) hI1 hp hvl hl
          refine ⟨Γ2, ?_, by rw [he]; exact hs2, hI2, hE1.trans hE2⟩
          have hlen := ((VL_iff _ _).1 hvl).1
          have hz : ¬ (vs.length ≠ ys.length) := by omega
          rw [← hw1]
          simp only [Instr.storeAt, Instr.sureAddr, Sem.run_bind, Sem.run_pure, Result.andThen_ok, storeVar, run_esz hsz, hc, List.size_toArray, hz, if_false]
          exact hrun
        split at h
        · rename_i ys
          split at h
          · rename_i hc
            cases h
            obtain ⟨vs, rfl, hvl⟩ := hv1
            exact go ys vs rfl hvl hc.1 hc.2 rfl
          · cases h
        · split at h
          · rename_i hc
            cases h
            refine go [v1] [vv] (cellOk_one hc.1 hv1).2 (VL_one hc.1 hv1) hc.2.1 hc.2.2 ?_
            rw [set_splice hc.2.2]
          · cases h
      · cases h
    · cases h
  · cases h

theorem Inv.writeH (hI : Inv Γ) {p t off : Nat} {xs : List AV} {c : Cell} (hp : Γ.s p = ⟨t, c⟩) (hc0 : c = .buf xs ∨ ∃ hs, c = .mix xs hs) {ys : List AV} {len q u : Nat} {vv : Value} (hv : V Γ (.sl ys len (.tok q u)) vv) (hl : off < xs.length) {hs' : List (Nat × AV)}
    (hh : ∀ o x, (o, x) ∈ hs' → (o = off ∧ x = .sl ys len (.tok q u)) ∨ (o ≠ off ∧ ∃ hs, c = .mix xs hs ∧ (o, x) ∈ hs)) :
    ∃ Γ', (storeCells ⟨(Γ.φ p).blk, (Γ.φ p).base + off, none⟩ [vv] 0).run P Γ.w = .ok () Γ'.w ∧ Γ'.s = upd Γ.s p ⟨t, .mix (xs.set off (.sl ys len .loose)) hs'⟩ ∧ Inv Γ' ∧ Ext Γ Γ' := by
  have h0 : V0 Γ.S Γ.w (.sl ys len .loose) vv := hv.1
  have hvl : VL Γ.S Γ.w [.sl ys len .loose] [vv] := VL_one rfl h0
  have he := hI.ent p
  unfold EntOk at he
  rw [hp] at he
  have he : (∀ o, Γ.w.frozen? ⟨(Γ.φ p).blk, o, none⟩ = false) ∧ (∀ (i : Nat) (x : AV), xs[i]? = some x → ∃ v, Γ.w.cell? ⟨(Γ.φ p).blk, (Γ.φ p).base + i, none⟩ = some v ∧ v.oneCell' = true ∧ V0 Γ.S Γ.w x v) := by
    rcases hc0 with rfl | ⟨hs, rfl⟩ <;> exact ⟨he.2.1, he.2.2.1⟩
  obtain ⟨h2, h3⟩ := he
  obtain ⟨w', hrun, hw, hcell⟩ := run_storeCells P (Γ.φ p).blk [vv] ((Γ.φ p).base + off) 0 Γ.w hvl.oneCells (fun j hj => by
    have hj0 : off + j < xs.length := by simp only [List.length_cons, List.length_nil] at hj; omega
    obtain ⟨v, hv', _⟩ := h3 (off + j) xs[off + j] (List.getElem?_eq_getElem hj0)
    exact ⟨⟨v, by rw [Nat.add_zero, Nat.add_assoc]; exact hv'⟩, h2 _⟩)
  rw [Nat.add_zero] at hw
  have hnew : w'.cell? ⟨(Γ.φ p).blk, (Γ.φ p).base + off, none⟩ = some vv := by
    have := hcell 0 vv rfl
    simpa using this
  obtain ⟨hI', hE⟩ := hI.storeC (xs' := xs.set off (.sl ys len .loose)) (c' := .mix (xs.set off (.sl ys len .loose)) hs') hp hc0 (.inr ⟨hs', rfl⟩) (w' := w') hw (by simp) (fun i x hx => by
    by_cases hio : i = off
    · subst hio
      rw [List.getElem?_set_self hl] at hx
      cases hx
      exact ⟨vv, hnew, (cellOk_one rfl h0).1, h0⟩
    · rw [List.getElem?_set_ne (fun e => hio e.symm)] at hx
      obtain ⟨v, g1, g2, g3⟩ := h3 i x hx
      exact ⟨v, by rw [hw.cell _ (by simp only [List.length_cons, List.length_nil]; omega)]; exact g1, g2, g3⟩) (fun hs h o x hx => by
    cases h
    rcases hh o x hx with ⟨rfl, rfl⟩ | ⟨hne, hs, rfl, hm⟩
    · exact ⟨.inl ⟨_, _, _, _, rfl⟩, vv, hnew, hv⟩
    · obtain ⟨k1, v, k2, k3⟩ := hI.mix p t xs hs hp o x hm
      exact ⟨k1, v, by rw [hw.cell _ (by simp only [List.length_cons, List.length_nil]; omega)]; exact k2, k3⟩) (by simp only [List.length_cons, List.length_nil]; omega)
  exact ⟨_, hrun, rfl, hI', hE⟩
theorem Inv.writeG (hI : Inv Γ) {p t off : Nat} {xs pre : List AV} (hp : Γ.s p = ⟨t, .buf xs⟩) {q k o len e : Nat} {us : List Value} {u : Value} (hv : VL Γ.S Γ.w pre us) (hu : V Γ (.own q k o len e) u) (hl : off + (pre.length + 1) ≤ xs.length) :
    ∃ Γ', (storeCells ⟨(Γ.φ p).blk, (Γ.φ p).base + off, none⟩ (us ++ [u]) 0).run P Γ.w = .ok () Γ'.w ∧ Γ'.s = upd Γ.s p ⟨t, .mix (splice xs off (pre ++ [.undef])) [(off + pre.length, .own q k o len e)]⟩ ∧ Inv Γ' ∧ Ext Γ Γ' := by
  have hlu := ((VL_iff _ _).1 hv).1
  have hvl : VL Γ.S Γ.w (pre ++ [.undef]) (us ++ [u]) := hv.append (by simp only [VL]; exact ⟨u, [], rfl, hu.1.2, trivial, rfl⟩)
  have hlen : (us ++ [u]).length = pre.length + 1 := by simp [hlu]
  have hlen' : (pre ++ [AV.undef]).length = pre.length + 1 := by simp
  have he := hI.ent p
  unfold EntOk at he
  rw [hp] at he
  obtain ⟨-, h2, h3, -⟩ := he
  obtain ⟨w', hrun, hw, hcell⟩ := run_storeCells P (Γ.φ p).blk (us ++ [u]) ((Γ.φ p).base + off) 0 Γ.w hvl.oneCells (fun j hj => by
    have hj0 : off + j < xs.length := by omega
    obtain ⟨v, hv', _⟩ := h3 (off + j) xs[off + j] (List.getElem?_eq_getElem hj0)
    exact ⟨⟨v, by rw [Nat.add_zero, Nat.add_assoc]; exact hv'⟩, h2 _⟩)
  rw [Nat.add_zero] at hw
  have hnew : w'.cell? ⟨(Γ.φ p).blk, (Γ.φ p).base + (off + pre.length), none⟩ = some u := by
    have := hcell pre.length u (by rw [hlu]; simp)
    rwa [Nat.add_zero, show (Γ.φ p).base + off + pre.length = (Γ.φ p).base + (off + pre.length) by omega] at this
  obtain ⟨hI', hE⟩ := hI.storeC (xs' := splice xs off (pre ++ [.undef])) (c' := .mix (splice xs off (pre ++ [.undef])) [(off + pre.length, .own q k o len e)]) hp (.inl rfl) (.inr ⟨_, rfl⟩) (w' := w') hw (splice_length (by omega)) (fun i x hx => by
    rw [splice_get (by omega), hlen'] at hx
    split at hx
    · obtain ⟨v, g1, g2, g3⟩ := h3 i x hx
      exact ⟨v, by rw [hw.cell _ (.inl (by omega))]; exact g1, g2, g3⟩
    · split at hx
      · obtain ⟨v, g1, g2, g3⟩ := ((VL_iff _ _).1 hvl).2 (i - off) x hx
        refine ⟨v, ?_, g2, g3⟩
        have := hcell (i - off) v g1
        rwa [Nat.add_zero, show (Γ.φ p).base + off + (i - off) = (Γ.φ p).base + i by omega] at this
      · obtain ⟨v, g1, g2, g3⟩ := h3 i x hx
        exact ⟨v, by rw [hw.cell _ (.inr (by omega))]; exact g1, g2, g3⟩) (fun hs h o' x hx => by
    cases h
    simp only [List.mem_singleton, Prod.mk.injEq] at hx
    obtain ⟨rfl, rfl⟩ := hx
    exact ⟨.inr ⟨_, _, _, _, _, rfl⟩, u, hnew, hu⟩) (by omega)
  exact ⟨_, hrun, rfl, hI', hE⟩
theorem storeH_ok (hI : Inv Γ) {t : Nat} {a v : AV} {s' : St} (h : storeH P t Γ.s a v = some s') {va vv : Value} (ha : V Γ a va) (hv : V Γ v vv) : UnitOk P (Instr.storeAt t va vv) Γ s' := by
  unfold storeH at h
  split at h
  · rename_i p i off ys len q u
    have run : ∀ (c : Cell) (xs : List AV) (hs' : List (Nat × AV)), Γ.s p = ⟨i, c⟩ → (c = .buf xs ∨ ∃ hs, c = .mix xs hs) → esz P t = some 1 → off < xs.length →
        (∀ o x, (o, x) ∈ hs' → (o = off ∧ x = .sl ys len (.tok q u)) ∨ (o ≠ off ∧ ∃ hs, c = .mix xs hs ∧ (o, x) ∈ hs)) → UnitOk P (Instr.storeAt t va vv) Γ (upd Γ.s p ⟨i, .mix (xs.set off (.sl ys len .loose)) hs'⟩) := by
      intro c xs hs' hp hc0 hsz hl hh
      have ha1 := ha.2 xs (by unfold cellsAt; rw [hp]; rcases hc0 with rfl | ⟨hs, rfl⟩ <;> simp)
      subst ha1
      obtain ⟨Γ2, hrun, hs2, hI2, hE2⟩ := Inv.writeH (P := P) hI hp hc0 hv hl hh
      refine ⟨Γ2, ?_, hs2, hI2, hE2⟩
      have hcs := (cellOk_one (x := .sl ys len .loose) rfl hv.1).2
      simp only [Instr.storeAt, Instr.sureAddr, Sem.run_bind, Sem.run_pure, Result.andThen_ok, storeVar, run_esz hsz, hcs]
      simpa using hrun
    split at h
    · rename_i t' xs hp
      split at h
      · rename_i hc
        cases h
        obtain ⟨rfl, h1, h2⟩ := hc
        exact run _ xs _ hp (.inl rfl) h1 h2 (fun o x hx => by simp at hx; exact .inl hx)
      · cases h
    · rename_i t' xs hs hp
      split at h
      · rename_i hc
        cases h
        obtain ⟨rfl, h1, h2⟩ := hc
        refine run _ xs _ hp (.inr ⟨hs, rfl⟩) h1 h2 (fun o x hx => ?_)
        rcases List.mem_cons.1 hx with hx | hx
        · cases hx; exact .inl ⟨rfl, rfl⟩
        · rw [List.mem_filter] at hx
          exact .inr ⟨by simpa using hx.2, hs, rfl, hx.1⟩
      · cases h
    · cases h
  · rename_i p i off pre q u o len e
    split at h
    · rename_i t' xs hp
      split at h
      · rename_i hc
        cases h
        obtain ⟨rfl, h1, h2⟩ := hc
        have ha1 := ha.2 xs (by simp [cellsAt, hp])
        subst ha1
        obtain ⟨us, x, rfl, hr, ho, ht, hk⟩ := hv
        obtain ⟨Γ2, hrun, hs2, hI2, hE2⟩ := Inv.writeG (P := P) hI hp hr (u := x) ⟨⟨ht, ho⟩, hk⟩ h2
        refine ⟨Γ2, ?_, hs2, hI2, hE2⟩
        have hlu := ((VL_iff _ _).1 hr).1
        have hz : ¬ ((us ++ [x]).length ≠ pre.length + 1) := by simp [hlu]
        have hcs : (Value.agg (us ++ [x]).toArray).cells = (us ++ [x]).toArray := rfl
        simp only [Instr.storeAt, Instr.sureAddr, Sem.run_bind, Sem.run_pure, Result.andThen_ok, storeVar, run_esz h1, hcs, List.size_toArray, hz, if_false]
        exact hrun
      · cases h
    · cases h
  · cases h

theorem run_newVar {t : TypeId} {v : Value} {vs : List Value} (h : v.cells = vs.toArray) (w : World) : (newVar t v).run P w = .ok ⟨w.heap.size, 0, none⟩ (w.alloc (.cells vs.toArray t)) := by
  simp only [newVar, newRow, Sem.run_bind, run_newObj, Result.andThen_ok, Sem.run_pure, h, World.alloc_eq]

theorem boxA_ok (hI : Inv Γ) {t d : Nat} {x v : AV} {s1 : St} {xs : List AV} (h : settle Γ.s x = some (v, s1)) (hc : cellsOf v = some xs) {vx : Value} (hx : V Γ x vx) :
    SemOk P (Instr.box t vx) Γ (upd s1 d ⟨(s1 d).t + 1, .buf xs⟩) (.ptr d ((s1 d).t + 1) 0) := by
  obtain ⟨Γ1, ⟨hw1, rfl, hI1, hE1⟩, hv1⟩ := settle_ok hI h hx
  obtain ⟨vs, hcs, hvl⟩ := cellsOf_ok hc hv1
  obtain ⟨hI2, hE2⟩ := hI1.alloc (d := d) (t := (Γ1.s d).t + 1) (by omega) vs.toArray t xs vs hvl [] (by simp)
  refine ⟨.pointer (some ⟨Γ1.w.heap.size, 0, none⟩), _, ?_, rfl, hI2, hE1.trans hE2, ?_⟩
  · rw [← hw1]
    simp only [Instr.box, Sem.run_bind, run_newVar hcs, Result.andThen_ok, Sem.run_pure]
  · exact ⟨by simp, fun ys _ => by simp⟩

theorem boxT_ok (hI : Inv Γ) {t : Nat} {x v : AV} {xs : List AV} (h : settled x = some v) (hc : cellsOf v = some xs) {vx : Value} (hx : V Γ x vx) :
    SemOk P (Instr.box t vx) Γ Γ.s (.rptr xs) := by
  have hv1 := settled_ok h hx
  obtain ⟨vs, hcs, hvl⟩ := cellsOf_ok hc hv1
  obtain ⟨Γ', hs', hw', hI', hE', hvc⟩ := hI.row (w' := Γ.w.alloc (.cells vs.toArray t)) rfl rfl rfl (by simp) (fun k hk => by
    show (Γ.w.heap.push _)[k]? = _
    rw [Array.getElem?_push, if_neg (by omega)]) xs vs hvl (fun i v hv => by rw [World.cell?_alloc_new]; simpa using hv)
  refine ⟨.pointer (some ⟨Γ.w.heap.size, 0, none⟩), Γ', ?_, hs', hI', hE', V_cell ⟨_, _, rfl, hvc⟩⟩
  rw [hw']
  simp only [Instr.box, Sem.run_bind, run_newVar hcs, Result.andThen_ok, Sem.run_pure]
theorem zeroOf_ok {t : Nat} {z : List AV} (h : zeroOf P t = some z) (S : Nat → Nat → Prop) (w : World) : ∃ v : Value, (zeroValue t).run P w = .ok v w ∧ z = v.cells.toList.map ofV1 ∧ VL S w z v.cells.toList := by
  unfold zeroOf at h
  split at h
  · rename_i v hv
    split at h
    · rename_i hc
      cases h
      cases hi : P.info? t with
      | none => rw [hi] at hv; cases hv
      | some i =>
        rw [hi] at hv
        have hv' : i.zero = some v := hv
        exact ⟨v, by simp [zeroValue, typeInfo, hi, hv'], rfl, VL_ofV1 _ hc⟩
    · cases h
  · cases h

theorem allocA_ok (hI : Inv Γ) {t d : Nat} {z : List AV} (h : zeroOf P t = some z) :
    SemOk P (Instr.alloc t true (.tuple #[])) Γ (upd Γ.s d ⟨(Γ.s d).t + 1, .buf z⟩) (.ptr d ((Γ.s d).t + 1) 0) := by
  obtain ⟨v, hrun, hz, hvl⟩ := zeroOf_ok h Γ.S Γ.w
  obtain ⟨hI2, hE2⟩ := hI.alloc (d := d) (t := (Γ.s d).t + 1) (by omega) v.cells.toList.toArray t z v.cells.toList hvl [] (by simp)
  refine ⟨.pointer (some ⟨Γ.w.heap.size, 0, none⟩), _, ?_, rfl, hI2, hE2, ?_⟩
  · have : (newVar t v).run P Γ.w = .ok ⟨Γ.w.heap.size, 0, none⟩ (Γ.w.alloc (.cells v.cells.toList.toArray t)) := run_newVar (by simp) _
    simp only [Instr.alloc, Sem.run_bind, hrun, Result.andThen_ok, this, Sem.run_pure]
  · exact ⟨by simp, fun ys _ => by simp⟩
end
end Go.Ab

/- append, copy, make, literals: they go on to the store that the abstract ones tell. No conditions. -/
namespace Go.Ab

theorem rep_succ (k : Nat) (z : List AV) : rep (k + 1) z = z ++ rep k z := by simp [rep, List.replicate_succ]
theorem rep_length (k : Nat) (z : List AV) : (rep k z).length = k * z.length := by
  induction k with
  | zero => simp [rep]
  | succ k ih => rw [rep_succ, List.length_append, ih, Nat.succ_mul, Nat.add_comm]
theorem VL_rep {S : Nat → Nat → Prop} {w : World} {z : List AV} {zs : List Value} (h : VL S w z zs) : ∀ k, VL S w (rep k z) (List.replicate k zs).flatten
  | 0 => by simp [rep, VL]
  | k + 1 => by rw [rep_succ, List.replicate_succ, List.flatten_cons]; exact h.append (VL_rep h k)

theorem flat_get (z : List Value) : ∀ (k i : Nat), i < k * z.length → (List.replicate k z).flatten[i]? = z[i % z.length]?
  | 0, i, h => by simp at h
  | k + 1, i, h => by
    rw [List.replicate_succ, List.flatten_cons]
    rcases Nat.lt_or_ge i z.length with hi | hi
    · rw [List.getElem?_append_left hi, Nat.mod_eq_of_lt hi]
    · rw [List.getElem?_append_right hi, flat_get z k (i - z.length) (by rw [Nat.succ_mul] at h; omega)]
      congr 1
      conv => rhs; rw [show i = (i - z.length) + z.length by omega, Nat.add_mod_right]
theorem range_rep (zero : Array Value) (k : Nat) : ((Array.range (k * zero.size)).map fun i => zero[i % zero.size]!) = ((List.replicate k zero.toList).flatten).toArray := by
  apply Array.ext'
  apply List.ext_getElem?
  intro i
  rcases Nat.lt_or_ge i (k * zero.size) with hi | hi
  · have h0 : 0 < zero.size := by
      rcases Nat.eq_zero_or_pos zero.size with h | h
      · rw [h] at hi; simp at hi
      · exact h
    have hm : i % zero.size < zero.size := Nat.mod_lt _ h0
    rw [flat_get zero.toList k i (by simpa using hi)]
    simp [hi, hm]
  · rw [List.getElem?_eq_none (by simpa using hi), List.getElem?_eq_none (by simpa using hi)]

section
variable {P : Program} {Γ : G}

theorem makeA_ok (hI : Inv Γ) {t d : Nat} {l c r : AV} {s' : St} (h : makeA P t d Γ.s l c = some (r, s')) {vl vc : Value} (hl : V Γ l vl) (hc : V Γ c vc) : SemOk P (Instr.makeSlice t vl vc) Γ s' r := by
  unfold makeA at h
  split at h
  · rename_i e l c ht
    rw [V_int] at hl hc; subst hl; subst hc
    simp only [Option.bind_eq_some_iff] at h
    obtain ⟨n, hn, z, hz, h⟩ := h
    split at h
    · rename_i hb
      obtain ⟨h0, h1, h2, h3, h4⟩ := hb
      cases h
      obtain ⟨zv, hzr, rfl, hvl⟩ := zeroOf_ok hz Γ.S Γ.w
      obtain ⟨i, hi, hsz, hnp⟩ := esz_info hn
      have hzs : zv.cells.size = n := by simpa using h4
      have hby : i.bytes ≤ 65536 := by simpa [byOf, hi] using h3
      have hwl : IntKind.i64.wrap l = l := by simp [IntKind.wrap, IntKind.bits, IntKind.signed]; omega
      have hwc : IntKind.i64.wrap c = c := by simp [IntKind.wrap, IntKind.bits, IntKind.signed]; omega
      have hcells : ((Array.range (c.toNat * n)).map fun j => zv.cells[j % zv.cells.size]!) = ((List.replicate c.toNat zv.cells.toList).flatten).toArray := by
        have := range_rep zv.cells c.toNat
        rwa [hzs] at this ⊢
      have hsplit : (List.replicate c.toNat zv.cells.toList).flatten = (List.replicate l.toNat zv.cells.toList).flatten ++ (List.replicate (c.toNat - l.toNat) zv.cells.toList).flatten := by
        rw [← List.flatten_append, List.replicate_append_replicate]; congr 2; omega
      obtain ⟨hI2, hE2⟩ := hI.alloc (d := d) (t := (Γ.s d).t + 1) (by omega) ((List.replicate c.toNat zv.cells.toList).flatten).toArray e (rep l.toNat (zv.cells.toList.map ofV1)) _ (VL_rep hvl l.toNat) ((List.replicate (c.toNat - l.toNat) zv.cells.toList).flatten) (by simpa using hsplit)
      refine ⟨.slice (some ⟨Γ.w.heap.size, 0, none⟩) l.toNat c.toNat, _, ?_, rfl, hI2, hE2, ?_⟩
      · have g1 : ¬ (c < 0) := by omega
        have hlen : ¬ (281474976710656 < (i.bytes : Int) * c) := by
          have : (i.bytes : Int) * c ≤ 65536 * c := Int.mul_le_mul_of_nonneg_right (by omega) (by omega)
          omega
        have g3 : ¬ (l < 0) := by omega
        have g4 : ¬ (c < l) := by omega
        by_cases hc0 : c.toNat * n = 0
        · have hc1 : c.toNat = 0 := by
            rcases Nat.mul_eq_zero.1 hc0 with h | h
            · exact h
            · omega
          simp [Instr.makeSlice, run_underlying (tk_sl ht), asInt, asIntOf, typeInfo, hi, hwl, hwc, g1, hlen, g3, g4, run_esz hn, newRow, hc1]
          rw [show (Array.range 0) = #[] from rfl, Array.map_empty]
        · simp [Instr.makeSlice, run_underlying (tk_sl ht), asInt, asIntOf, typeInfo, hi, hwl, hwc, g1, hlen, g3, g4, run_esz hn, newRow, hc0, hzr]
          have := hcells
          rw [this]
      · refine ⟨⟨by simp, rfl⟩, fun ys hy => ⟨c.toNat, by simp, by omega, ?_⟩⟩
        have hy' : ys = rep l.toNat (zv.cells.toList.map ofV1) := by simp [cellsAt] at hy; exact hy.symm
        subst hy'
        rw [rep_length]
        simp [hzs]
        have : l.toNat * n + (c.toNat - l.toNat) * n = c.toNat * n := by rw [← Nat.add_mul]; congr 1; omega
        omega
    · cases h
  · cases h

theorem SameCells.load {w w' : World} (h : ∀ b o, w'.cell? ⟨b, o, none⟩ = w.cell? ⟨b, o, none⟩) {b o : Nat} {vs : List Value} (hv : ∀ (i : Nat) (v : Value), vs[i]? = some v → w.cell? ⟨b, o + i, none⟩ = some v) :
    (loadCells ⟨b, o, none⟩ vs.length).run P w' = .ok vs.toArray w' :=
  run_loadCells_list w' ⟨b, o, none⟩ vs (fun j v hj => by rw [add_eq, h]; exact hv j v hj)

def Firsts (P : Program) (Γ : G) (n k : Nat) (us : List Value) (v : Value) : Prop :=
  ∀ (k' : Nat), k' ≤ k → ∀ w', (∀ b o, w'.cell? ⟨b, o, none⟩ = Γ.w.cell? ⟨b, o, none⟩) → (Builtin.firstCells n k' v).run P w' = .ok ((us.take (k' * n)).toArray) w'
theorem Firsts.ofReads {n k : Nat} {xs : List AV} {b o cap len : Nat} (h : Reads Γ xs b o) (hl : xs.length = k * n) : ∃ us, VL Γ.S Γ.w xs us ∧ Firsts P Γ n k us (.slice (some ⟨b, o, none⟩) len cap) := by
  obtain ⟨us, h1, h2⟩ := h.vals
  refine ⟨us, h1, fun k' hk w' hw => ?_⟩
  have hlu := ((VL_iff _ _).1 h1).1
  have hle : k' * n ≤ us.length := by rw [← hlu, hl]; exact Nat.mul_le_mul_right _ hk
  have e : (us.take (k' * n)).length = k' * n := by simp; omega
  have := SameCells.load (P := P) hw (b := b) (o := o) (vs := us.take (k' * n)) (fun i v hi => h2 i v (by
    rw [List.getElem?_take] at hi; split at hi
    · exact hi
    · cases hi))
  rw [e] at this
  simpa [Builtin.firstCells] using this

theorem moreA_src {el n : Nat} {ty : Option TypeId} {x : AV} {ys : List AV} {k : Nat} (hI : Inv Γ) (hk : ∀ kk, ty.map (tkOf P) ≠ some (.int kk)) (h : moreA P el n ty Γ.s x = some (ys, k)) {vx : Value} (hx : V Γ x vx) :
    (∃ t d, ty = some t ∧ P.underlying t = some d ∧ ((∃ x, d = .slice x) ∨ d = .string)) ∧ ys.length = k * n ∧ (Builtin.lenOf vx).run P Γ.w = .ok k Γ.w ∧ ∃ us, VL Γ.S Γ.w ys us ∧ Firsts P Γ n k us vx := by
  unfold moreA at h
  split at h
  · rename_i kk _ e; exact absurd e (hk _)
  · rename_i e xs len g ht
    split at h
    · rename_i hl
      cases h
      cases ty with
      | none => cases ht
      | some t =>
      have htk : tkOf P t = .sl e := by simpa using ht
      obtain ⟨a, cap, rfl, _, _, hxs⟩ := sl_value hx
      refine ⟨⟨t, _, rfl, tk_sl htk, .inl ⟨_, rfl⟩⟩, hl, by simp [Builtin.lenOf], ?_⟩
      rcases hxs with ⟨rfl, rfl, rfl⟩ | ⟨b, o, rfl, hc⟩
      · exact ⟨[], VL.nil, fun k' hk' w' _ => by
          obtain rfl : k' = 0 := by omega
          cases a <;> simp [Builtin.firstCells, loadCells, loadCellsFrom]⟩
      · exact Firsts.ofReads (.ofVC hc) hl
    · cases h
  · rename_i e p t off len e' ht
    simp only [Option.bind_eq_some_iff] at h
    obtain ⟨xs, hxs, h⟩ := h
    split at h
    · rename_i hl
      obtain ⟨rfl, hl⟩ := hl
      cases h
      cases ty with
      | none => cases ht
      | some tt =>
      have htk : tkOf P tt = .sl e := by simpa using ht
      obtain ⟨cap, rfl, _⟩ := hx.2 xs hxs
      have hlen : ((xs.drop off).take (k * e')).length = k * e' := by simp; omega
      exact ⟨⟨tt, _, rfl, tk_sl htk, .inl ⟨_, rfl⟩⟩, hlen, by simp [Builtin.lenOf], Firsts.ofReads ((Reads.drop (hI.read hxs) off).take _) hlen⟩
    · cases h
  · rename_i b ht
    split at h
    · rename_i hn
      subst hn
      cases h
      cases ty with
      | none => cases ht
      | some t =>
      have htk : tkOf P t = .str := by simpa using ht
      rw [V_str] at hx; subst hx
      refine ⟨⟨t, _, rfl, tk_str htk, .inr rfl⟩, by simp [cellsOfBytes], by simp [Builtin.lenOf, size_mk], _, VL_bytes b, fun k' hk' w' _ => ?_⟩
      simp only [Builtin.firstCells, Sem.run_pure]
      congr 1
      apply Array.ext'
      simp [ByteArray.data_extract]
    · cases h
  · cases h

theorem copyA_ok (hI : Inv Γ) {at_ : Array TypeId} {x y r : AV} {s' : St} (h : copyA P at_ Γ.s x y = some (r, s')) {vx vy : Value} (hx : V Γ x vx) (hy : V Γ y vy) (ty : TypeId) :
    SemOk P (Builtin.copy_ at_ ty #[vx, vy]) Γ s' r := by
  unfold copyA at h
  split at h
  · rename_i el kk p t off len e h0 h1
    simp only [Option.bind_eq_some_iff] at h
    obtain ⟨n, hn, ⟨ys, m⟩, hm, h⟩ := h
    dsimp only at h
    have hmore : (∀ k2, at_[1]?.map (tkOf P) ≠ some (.int k2)) ∧ moreA P el n at_[1]? Γ.s y = some (ys, m) := by
      split at hm
      · exact ⟨fun k2 => by rw [h1]; simp, hm⟩
      · exact ⟨fun k2 => by rw [h1]; simp, hm⟩
      · cases hm
    obtain ⟨_, hyl, hlen, us, hus, hf⟩ := moreA_src hI hmore.1 hmore.2 hy
    split at h
    · rename_i t' xs hp
      split at h
      · rename_i hc
        obtain ⟨rfl, rfl, hl⟩ := hc
        cases h
        obtain ⟨cap, rfl, hlc, _⟩ := hx.2 xs (by simp [cellsAt, hp])
        have h0' : ∃ tt, at_[0]? = some tt ∧ P.underlying tt = some (.slice el) := by
          cases h0q : at_[0]? with
          | none => rw [h0q] at h0; cases h0
          | some tt => rw [h0q] at h0; exact ⟨tt, rfl, tk_sl (by simpa using h0)⟩
        obtain ⟨tt, h0t, h0u⟩ := h0'
        have hmin : Nat.min m len * e ≤ ys.length := by rw [hyl]; exact Nat.mul_le_mul_right _ (Nat.min_le_left _ _)
        have hmin2 : Nat.min m len * e ≤ len * e := Nat.mul_le_mul_right _ (Nat.min_le_right _ _)
        obtain ⟨Γ2, hrun, hs2, hI2, hE2⟩ := Inv.write (P := P) hI hp (off := off) (hus.take (Nat.min m len * e)) (by simp; omega)
        refine ⟨.int .i64 (Nat.min m len : Nat), Γ2, ?_, hs2, hI2, hE2, by simp [V, V0]⟩
        have hfirst := hf (Nat.min m len) (Nat.min_le_left _ _) Γ.w (fun _ _ => rfl)
        simp only [Builtin.copy_, h0t, List.getElem?_toArray, List.getElem?_cons_zero, List.getElem?_cons_succ, Sem.run_bind, run_underlying h0u, Result.andThen_ok, hlen, run_esz hn, hfirst, hrun, Sem.run_pure, goInt]
      · cases h
    · cases h
  · cases h
end
end Go.Ab

/- append goes on to the store that the abstract one tells. No conditions. -/
namespace Go.Ab
section
variable {P : Program} {Γ : G}

inductive Src (P : Program) (Γ : G) (el e : Nat) (at1 : Option TypeId) (v : Value) (n : Nat) (us : List Value) : Prop
  | some (t : TypeId) (d : TypeDesc) (h1 : at1 = some t) (h2 : P.underlying t = some d) (h3 : (∃ x, d = .slice x) ∨ d = .string) (h4 : (Builtin.lenOf v).run P Γ.w = .ok n Γ.w) (h5 : Firsts P Γ e n us v) (h6 : us.length = n * e)
  | zeros (t : TypeId) (k : IntKind) (m : Int) (zv : Value) (h1 : at1 = some t) (h2 : P.underlying t = some (.int k)) (h3 : v = .int .i64 m) (h4 : 0 ≤ m ∧ m < 2147483648) (h5 : n = m.toNat) (h6 : ∀ w, (zeroValue el).run P w = .ok zv w)
      (h7 : zv.cells.size = e) (h8 : us = (List.replicate n zv.cells.toList).flatten) (h9 : byOf P el ≤ 65536)

theorem zeroOf_all {t : Nat} {z : List AV} (h : zeroOf P t = some z) : ∃ v : Value, (∀ w, (zeroValue t).run P w = .ok v w) ∧ z = v.cells.toList.map ofV1 ∧ ∀ S w, VL S w z v.cells.toList := by
  unfold zeroOf at h
  split at h
  · rename_i v hv
    split at h
    · rename_i hc
      cases h
      cases hi : P.info? t with
      | none => rw [hi] at hv; cases hv
      | some i =>
        rw [hi] at hv
        have hv' : i.zero = some v := hv
        exact ⟨v, fun w => by simp [zeroValue, typeInfo, hi, hv'], rfl, fun S w => VL_ofV1 _ hc⟩
    · cases h
  · cases h

theorem moreA_ok {el e : Nat} {ty : Option TypeId} {y : AV} {ys : List AV} {n : Nat} (hI : Inv Γ) (h : moreA P el e ty Γ.s y = some (ys, n)) {vy : Value} (hy : V Γ y vy) :
    ∃ us, VL Γ.S Γ.w ys us ∧ us.length = n * e ∧ Src P Γ el e ty vy n us := by
  by_cases hk : ∃ kk, ty.map (tkOf P) = some (.int kk)
  · obtain ⟨kk, hk⟩ := hk
    unfold moreA at h
    rw [hk] at h
    have hy' : ∃ m, y = .int .i64 m := by
      split at h
      · rename_i m _; exact ⟨m, rfl⟩
      · rename_i e; cases e
      · rename_i e; cases e
      · rename_i e; cases e
      · cases h
    obtain ⟨m, rfl⟩ := hy'
    dsimp only at h
    simp only [Option.bind_eq_some_iff] at h
    obtain ⟨z, hz, h⟩ := h
    split at h
    · rename_i hb
      cases h
      obtain ⟨zv, h1, rfl, h2⟩ := zeroOf_all hz
      rw [V_int] at hy
      cases ty with
      | none => cases hk
      | some t =>
      have hsz : zv.cells.size = e := by simpa using hb.2.2.2
      refine ⟨_, VL_rep (h2 Γ.S Γ.w) _, by simp [hsz], .zeros t kk m zv rfl (tk_int (by simpa using hk)) hy ⟨hb.1, hb.2.1⟩ rfl h1 hsz rfl hb.2.2.1⟩
    · cases h
  · have hk' : ∀ kk, ty.map (tkOf P) ≠ some (.int kk) := fun kk e => hk ⟨kk, e⟩
    obtain ⟨⟨t, d, h1, h2, h3⟩, h4, h5, us, h6, h7⟩ := moreA_src hI hk' h hy
    have hul : us.length = n * e := by rw [← ((VL_iff _ _).1 h6).1, h4]
    exact ⟨us, h6, hul, .some t d h1 h2 h3 h5 h7 hul⟩

theorem zeroCells_eq (zero : Array Value) (n : Nat) : Builtin.zeroCells zero n = ((List.replicate n zero.toList).flatten).toArray := by
  unfold Builtin.zeroCells; exact range_rep zero n

variable {at_ : Array TypeId} {tt el e n len cap : Nat} {i : TypeInfo} {us : List Value} {vy : Value} {a : Option Addr}

theorem run_append_in (h0 : at_[0]? = some tt) (hu : P.underlying tt = some (.slice el)) (he : esz P el = some e) (hi : P.info? el = some i) (hs : Src P Γ el e at_[1]? vy n us)
    (hc : len + n ≤ cap) (ty : TypeId) {w' : World}
    (hst : match (generalizing := false) a with | some ad => (storeCells (ad.add (len * e)) us 0).run P Γ.w = .ok () w' | none => w' = Γ.w) :
    (Builtin.append_ at_ ty #[.slice a len cap, vy]).run P Γ.w = .ok (.slice a (len + n) cap) w' := by
  cases hs with
  | some t d h1 h2 h3 h4 h5 h6 =>
    have hf := h5 n (Nat.le_refl _) Γ.w (fun _ _ => rfl)
    rw [List.take_of_length_le (by omega)] at hf
    rcases h3 with ⟨x, rfl⟩ | rfl
    all_goals
      simp only [Builtin.append_, h0, h1, List.getElem?_toArray, List.getElem?_cons_zero, List.getElem?_cons_succ, Sem.run_bind, run_underlying hu, run_underlying h2, Result.andThen_ok, run_esz he, Sem.run_pure, Bool.false_eq_true, if_false, h4, hc, if_true, Bool.not_false, hf]
      cases a with
      | none => have hst' : w' = Γ.w := hst; rw [hst']; rfl
      | some ad => have hst' : (storeCells (ad.add (len * e)) us 0).run P Γ.w = .ok () w' := hst; simp only [Sem.run_bind, hst', Result.andThen_ok, Sem.run_pure]
  | zeros t k m zv h1 h2 h3 h4 h5 h6 h7 h8 h9 =>
    subst h3
    have hb : i.bytes ≤ 65536 := by simpa [byOf, hi] using h9
    have hw : IntKind.i64.wrap m = m := by simp [IntKind.wrap, IntKind.bits, IntKind.signed]; omega
    have g1 : ¬ (m < 0) := by omega
    have g2 : ¬ (281474976710656 < m * (i.bytes : Int)) := by
      have : m * (i.bytes : Int) ≤ m * 65536 := Int.mul_le_mul_of_nonneg_left (by omega) (by omega)
      omega
    have hl : us.length = n * e := by rw [h8]; simp [h7]
    have hz : ∀ w, (if n * e = 0 then (pure #[] : Sem (Array Value)) else do pure (Builtin.zeroCells (← zeroValue el).cells n)).run P w = .ok us.toArray w := fun w => by
      split
      · rename_i hn0
        have : us = [] := List.length_eq_zero_iff.1 (by omega)
        subst this; rfl
      · simp only [Sem.run_bind, h6, Result.andThen_ok, Sem.run_pure, zeroCells_eq, h8]
    have hz' := hz Γ.w
    simp only [Sem.run_ite, Sem.run_bind, Sem.run_pure] at hz'
    simp [Builtin.append_, h0, h1, run_underlying hu, run_underlying h2, run_esz he, asInt, asIntOf, hw, g1, g2, typeInfo, hi, ← h5, hc]
    by_cases hn0 : n * e = 0
    · have hus : us = [] := List.length_eq_zero_iff.1 (by omega)
      rw [hus] at hst
      rw [if_pos hn0]
      cases a with
      | none => have hst' : w' = Γ.w := hst; rw [hst']; rfl
      | some ad => have hst' : (storeCells (ad.add (len * e)) [] 0).run P Γ.w = .ok () w' := hst; simp only [Sem.run_map, hst', Result.andThen_ok]
    · rw [if_neg hn0, h6]
      simp only [Result.andThen_ok, zeroCells_eq, ← h8]
      cases a with
      | none => have hst' : w' = Γ.w := hst; rw [hst']; rfl
      | some ad => have hst' : (storeCells (ad.add (len * e)) us 0).run P Γ.w = .ok () w' := hst; simp only [Sem.run_map, hst', Result.andThen_ok]

theorem run_append_new (h0 : at_[0]? = some tt) (hu : P.underlying tt = some (.slice el)) (he : esz P el = some e) (hi : P.info? el = some i) {zv : Value} (hzv : ∀ w, (zeroValue el).run P w = .ok zv w) (hs : Src P Γ el e at_[1]? vy n us)
    {os : List Value} (_hol : os.length = len * e) (ho : (Builtin.firstCells e len (.slice a len cap)).run P Γ.w.drew = .ok os.toArray Γ.w.drew)
    (hc : cap < len + n) (hfit : Builtin.nextslicecap (len + n) cap * i.bytes ≤ 281474976710656) (h63 : len + n ≤ 9223372036854775807) (ty : TypeId) :
    ∃ newCap rest, len + n ≤ newCap ∧ (Builtin.append_ at_ ty #[.slice a len cap, vy]).run P Γ.w = .ok (.slice (some ⟨Γ.w.heap.size, 0, none⟩) (len + n) newCap) (Γ.w.drew.alloc (.cells (os ++ us ++ rest).toArray el)) ∧
      rest = (List.replicate (newCap - (len + n)) zv.cells.toList).flatten := by
  let newCap := (Question.appendCap (len + n) cap el).cut (Γ.w.tape Γ.w.drawn (.appendCap (len + n) cap el))
  have hnc : len + n ≤ newCap := by simp only [newCap, Question.cut]; omega
  have h48 : ¬ (281474976710656 < Builtin.nextslicecap (len + n) cap * i.bytes) := by omega
  have hnot : ¬ (len + n ≤ cap) := by omega
  have hmax : ¬ (IntKind.max .i64 < ((len + n : Nat) : Int)) := by
    have e3 : IntKind.max .i64 = 9223372036854775807 := by decide
    rw [e3]; omega
  have hmax' : ¬ ((9223372036854775807 : Int) < (len : Int) + (n : Int)) := by omega
  refine ⟨newCap, _, hnc, ?_, rfl⟩
  cases hs with
  | some t d h1 h2 h3 h4 h5 h6 =>
    have hf := h5 n (Nat.le_refl _) Γ.w.drew (fun _ _ => rfl)
    rw [List.take_of_length_le (by omega)] at hf
    rcases h3 with ⟨x, rfl⟩ | rfl
    all_goals
      simp [Builtin.append_, h0, h1, run_underlying hu, run_underlying h2, run_esz he, h4, hnot, typeInfo, hi, hmax', h48, Question.forced, ho, hf, hzv, newRow, newCap, zeroCells_eq]
  | zeros t k m zv' h1 h2 h3 h4 h5 h6 h7 h8 h9 =>
    subst h3
    have hb' : i.bytes ≤ 65536 := by simpa [byOf, hi] using h9
    have hw : IntKind.i64.wrap m = m := by simp [IntKind.wrap, IntKind.bits, IntKind.signed]; omega
    have g1 : ¬ (m < 0) := by omega
    have g2 : ¬ (281474976710656 < m * (i.bytes : Int)) := by
      have : m * (i.bytes : Int) ≤ m * 65536 := Int.mul_le_mul_of_nonneg_left (by omega) (by omega)
      omega
    have hl : us.length = n * e := by rw [h8]; simp [h7]
    have hz : ∀ w, (if n * e = 0 then (pure #[] : Sem (Array Value)) else do pure (Builtin.zeroCells (← zeroValue el).cells n)).run P w = .ok us.toArray w := fun w => by
      split
      · rename_i hn0
        have : us = [] := List.length_eq_zero_iff.1 (by omega)
        subst this; rfl
      · simp only [Sem.run_bind, h6, Result.andThen_ok, Sem.run_pure, zeroCells_eq, h8]
    have hz' := hz Γ.w.drew
    simp only [Sem.run_ite, Sem.run_bind, Sem.run_pure] at hz'
    have hmax2 : ¬ ((9223372036854775807 : Int) < (len : Int) + max m 0) := by omega
    simp [Builtin.append_, h0, h1, run_underlying hu, run_underlying h2, run_esz he, asInt, asIntOf, hw, g1, g2, typeInfo, hi, ← h5, hnot, hmax2, h48, Question.forced, ho, hzv, newRow]
    by_cases hn0 : n * e = 0
    · have hus : us = [] := List.length_eq_zero_iff.1 (by omega)
      rw [if_pos hn0, hus]
      simp [newCap, zeroCells_eq]
    · rw [if_neg hn0]
      have h6' := h6 Γ.w.drew
      rw [hzv] at h6'
      cases h6'
      simp [newCap, zeroCells_eq, h8]
end
end Go.Ab

/- append, whole; literals. No conditions. -/
namespace Go.Ab
section
variable {P : Program} {Γ : G}

structure Took (Γ : G) (s1 : St) (e : Nat) (xs : List AV) (len : Nat) (vx : Value) : Prop where
  ex : ∃ Γ1 a cap, Quiet Γ s1 Γ1 ∧ vx = .slice a len cap ∧ len ≤ cap ∧ xs.length = len * e ∧
    ((xs = [] ∧ len = 0 ∧ cap = 0) ∨ ∃ b o, a = some ⟨b, o, none⟩ ∧ VC Γ1.S Γ1.w xs b o) ∧ (∀ d, (s1 d).t = (Γ.s d).t) ∧
    (len < cap → ∃ p c' lo b o, a = some ⟨b, o, none⟩ ∧ s1 = upd Γ.s p ⟨(Γ.s p).t, c'⟩ ∧
      (∀ q, o + len * e ≤ q → q < o + len * e + (cap - len) * e → Rg Γ p b q) ∧
      (∀ i, i < (cap - len) * e → (∃ v, Γ.w.cell? ⟨b, o + len * e + i, none⟩ = some v) ∧ Γ.w.frozen? ⟨b, o + len * e + i, none⟩ = false) ∧
      ((c' = .dead ∧ lo = o + len * e ∧ VC Γ.S Γ.w xs b o) ∨ ∃ ys off, (Γ.s p).c = .buf ys ∧ c' = .frz ys ∧ b = (Γ.φ p).blk ∧ o + len * e = (Γ.φ p).base + ys.length ∧ lo = (Γ.φ p).base ∧ xs = ys.drop off ∧ o = (Γ.φ p).base + off ∧ off ≤ ys.length))

theorem baseA_ok (hI : Inv Γ) {e : Nat} {x : AV} {xs : List AV} {len : Nat} {s1 : St} (h : baseA e Γ.s x = some (xs, len, s1)) {vx : Value} (hx : V Γ x vx) : Took Γ s1 e xs len vx := by
  unfold baseA at h
  split at h
  · rename_i xs' len'
    split at h
    · rename_i hl
      cases h
      obtain ⟨a, cap, rfl, hlc, hg, hxs⟩ := sl_value hx
      have hcap := hg (.inl rfl)
      exact ⟨Γ, a, cap, ⟨rfl, rfl, hI, .refl _⟩, rfl, hlc, hl, hxs, fun _ => rfl, fun h => by omega⟩
    · cases h
  · rename_i xs' len'
    split at h
    · rename_i hl
      cases h
      obtain ⟨a, cap, rfl, hlc, hg, hxs⟩ := sl_value hx
      have hcap := hg (.inr rfl)
      exact ⟨Γ, a, cap, ⟨rfl, rfl, hI, .refl _⟩, rfl, hlc, hl, hxs, fun _ => rfl, fun h => by omega⟩
    · cases h
  · rename_i xs' len' p t
    split at h
    · rename_i t' e' hp
      split at h
      · rename_i hc
        obtain ⟨rfl, rfl, hl⟩ := hc
        cases h
        obtain ⟨a, cap, hv, hlc, _, hxs⟩ := sl_value hx
        obtain ⟨hI1, hE1⟩ := hI.kill (p := p) (t := t') (by rw [hp]; exact Nat.le_refl _)
        refine ⟨{ Γ with s := upd Γ.s p ⟨t', .dead⟩ }, a, cap, ⟨rfl, rfl, hI1, hE1⟩, hv, hlc, hl, ?_, fun d => ?_, fun hlt => ?_⟩
        · rcases hxs with hxs | ⟨b, o, ha, hc⟩
          · exact .inl hxs
          · exact .inr ⟨b, o, ha, hc⟩
        · by_cases hd : d = p
          · subst hd; simp [hp]
          · simp [upd_ne _ _ hd]
        · obtain ⟨h0, ht, hk⟩ := hx
          obtain ⟨a2, cap2, hv2, hsp, hbl⟩ := hk e' hp
          rw [hv] at hv2
          cases hv2
          obtain ⟨o, rfl, ho⟩ := hbl hlt
          have he := hI.ent p
          unfold EntOk at he
          rw [hp] at he
          simp only [EntC] at he
          refine ⟨p, .dead, _, (Γ.φ p).blk, o, rfl, by rw [hp], fun q h1 h2 => ?_, fun i hi => ?_, .inl ⟨rfl, rfl, ?_⟩⟩
          · unfold Rg
            rw [hp]
            exact ⟨rfl, by omega, by rw [hsp]; omega⟩
          · have := he i (by rw [hsp]; exact hi)
            rwa [← ho, hl] at this
          · rcases hxs with ⟨_, _, h1⟩ | ⟨b, o', ha, hc⟩
            · omega
            · cases ha; exact hc
      · cases h
    · cases h
  · rename_i p t off len' e'
    split at h
    · rename_i t' ys hp
      split at h
      · rename_i hc
        obtain ⟨rfl, rfl, hl⟩ := hc
        cases h
        obtain ⟨cap, rfl, hlc, hcap⟩ := hx.2 ys (by simp [cellsAt, hp])
        obtain ⟨hI1, hE1⟩ := hI.freeze hp
        have he1 := hI1.ent p
        unfold EntOk at he1
        simp only [upd_same, EntC] at he1
        refine ⟨{ Γ with s := upd Γ.s p ⟨t', .frz ys⟩, S := fun b o => Γ.S b o ∨ (b = (Γ.φ p).blk ∧ (Γ.φ p).base ≤ o ∧ o < (Γ.φ p).base + ys.length) }, _, cap, ⟨rfl, rfl, hI1, hE1⟩, rfl, hlc, by simp; omega, .inr ⟨_, _, rfl, he1.drop off⟩, fun d => ?_, fun hlt => ?_⟩
        · by_cases hd : d = p
          · subst hd; simp [hp]
          · simp [upd_ne _ _ hd]
        · have he := hI.ent p
          unfold EntOk at he
          rw [hp] at he
          simp only [EntC] at he
          have hmul : len * e' + (cap - len) * e' = cap * e' := by rw [← Nat.add_mul]; congr 1; omega
          refine ⟨p, .frz ys, (Γ.φ p).base, (Γ.φ p).blk, (Γ.φ p).base + off, rfl, by rw [hp], fun q _ _ => ?_, fun i hi => ?_, .inr ⟨ys, off, by rw [hp], rfl, rfl, by omega, rfl, rfl, rfl, by omega⟩⟩
          · unfold Rg; rw [hp]
          · refine ⟨?_, he.2.1 _⟩
            obtain ⟨v, hv⟩ := he.2.2.2 i (by omega)
            refine ⟨v, ?_⟩
            rw [show (Γ.φ p).base + off + len * e' + i = (Γ.φ p).base + ys.length + i by omega]; exact hv
      · cases h
    · cases h
  · cases h

theorem appendX_ok (hI : Inv Γ) {C : Nat → Nat → Bool} (hC : ∀ need old bytes, old < need → C need bytes = true → Builtin.nextslicecap need old * bytes ≤ 281474976710656) {at_ : Array TypeId} {d : Nat} {x y r : AV} {s' : St} (h : appendX P C at_ d Γ.s x y = some (r, s')) {vx vy : Value} (hx : V Γ x vx) (hy : V Γ y vy) (ty : TypeId) :
    SemOk P (Builtin.append_ at_ ty #[vx, vy]) Γ s' r := by
  unfold appendX at h
  split at h
  · rename_i el h0
    simp only [Option.bind_eq_some_iff] at h
    obtain ⟨e, he, ⟨ys, n⟩, hm, ⟨xs, len, s1⟩, hb, h⟩ := h
    dsimp only at h hm hb
    split at h
    · rename_i hc
      obtain ⟨hby, h63, hzo⟩ := hc
      cases h
      obtain ⟨us, hus, hul, hsrc⟩ := moreA_ok hI hm hy
      have hyl : ys.length = n * e := by rw [((VL_iff _ _).1 hus).1, hul]
      obtain ⟨Γ1, a, cap, ⟨hw1, rfl, hI1, hE1⟩, rfl, hlc, hxl, hxs, hser, hin⟩ := (baseA_ok hI hb hx).ex
      obtain ⟨z, hz, hzl⟩ := Option.map_eq_some_iff.1 hzo
      obtain ⟨zv, hzv, rfl, _⟩ := zeroOf_all hz
      have hzs : zv.cells.size = e := by simpa using hzl
      obtain ⟨i, hi, _, hep⟩ := esz_info he
      have h0' : ∃ tt, at_[0]? = some tt ∧ P.underlying tt = some (.slice el) := by
        cases h0q : at_[0]? with
        | none => rw [h0q] at h0; cases h0
        | some tt => rw [h0q] at h0; exact ⟨tt, rfl, tk_sl (by simpa using h0)⟩
      obtain ⟨tt, h0t, hu⟩ := h0'
      have hbi : byOf P el = i.bytes := by simp [byOf, hi]
      rw [hbi] at hby
      by_cases hroom : len + n ≤ cap
      · by_cases hlt : len < cap
        · -- the room is filled
          obtain ⟨p, c', lo, b, o, rfl, hs1, hreg, hcells, hcase⟩ := hin hlt
          have hmul : (cap - len) * e = n * e + (cap - (len + n)) * e := by rw [← Nat.add_mul]; congr 1; omega
          obtain ⟨w', hrun, hwr, hcell⟩ := run_storeCells P b us (o + len * e) 0 Γ.w hus.oneCells (fun j hj => by
            have := hcells j (by omega)
            exact ⟨by rw [Nat.add_zero]; exact this.1, by rw [Nat.add_zero]; exact this.2⟩)
          rw [Nat.add_zero, hul] at hwr
          have hgrow := hI.grow (p := p) (d := d) (t' := (Γ1.s d).t + 1) (e := e) (lo := lo) (sp := (cap - len) * e) (c' := c') hreg hcells (by omega) hwr ys hyl (fun i x hx => by
            obtain ⟨v, g1, g2, g3⟩ := ((VL_iff _ _).1 hus).2 i x hx
            exact ⟨v, by have := hcell i v g1; rwa [Nat.add_zero] at this, g2, g3⟩) (by
            rcases hcase with ⟨g1, g2, _⟩ | ⟨ys', off, g1, g2, g3, g4, g5, _⟩
            · exact .inl ⟨g1, g2⟩
            · exact .inr ⟨ys', g1, g2, g3, g4, g5⟩) (by rw [hser]; omega)
          obtain ⟨hI2, hE2, hvy, hvf⟩ := hgrow
          refine ⟨.slice (some ⟨b, o, none⟩) (len + n) cap, _, run_append_in h0t hu he hi hsrc hroom ty (a := some ⟨b, o, none⟩) (w' := w') (by show (storeCells ((⟨b, o, none⟩ : Addr).add (len * e)) us 0).run P Γ.w = _; rw [add_eq]; exact hrun), by rw [hs1], hI2, hE2, ?_⟩
          refine ⟨⟨_, cap, rfl, hroom, by simp, ⟨rfl, by simp⟩, .inr ⟨b, o, rfl, VC.append ?_ (by rw [hxl]; exact hvy)⟩⟩, by simp, fun e2 he2 => ⟨_, cap, rfl, ?_, fun _ => ⟨o, by simp, ?_⟩⟩⟩
          · rcases hcase with ⟨_, _, g3⟩ | ⟨ys', off, g1, g2, rfl, g4, g5, rfl, rfl, g8⟩
            · exact VC.mono hE2.stays _ _ _ g3
            · exact (hvf ys' g1 g2).drop off
          · have : e2 = e := by simp at he2; exact he2.symm
            subst this
            simp only [upd_same]; omega
          · simp only [upd_same, List.length_append, hxl, hyl]; omega
        · -- nothing is put behind
          have hn0 : n = 0 := by omega
          subst hn0
          have hus0 : us = [] := List.length_eq_zero_iff.1 (by omega)
          have hys0 : ys = [] := List.length_eq_zero_iff.1 (by omega)
          subst hus0; subst hys0
          obtain ⟨hI2, hE2⟩ := hI1.tok0 (d := d) (t := (Γ1.s d).t + 1) (e := e) (by omega)
          refine ⟨.slice a (len + 0) cap, { Γ1 with φ := upd Γ1.φ d ⟨0, 0, 0⟩, s := upd Γ1.s d ⟨(Γ1.s d).t + 1, .tok e⟩ }, run_append_in h0t hu he hi hsrc hroom ty (a := a) (w' := Γ1.w) ?_, rfl, hI2, hE1.trans hE2, ?_⟩
          · cases a with
            | none => exact hw1
            | some ad => show (storeCells _ [] 0).run P Γ.w = _; rw [hw1]; rfl
          · refine ⟨⟨a, cap, rfl, hroom, by simp, ⟨rfl, by simp⟩, ?_⟩, by simp, fun e2 _ => ⟨a, cap, rfl, ?_, fun h => by omega⟩⟩
            · rcases hxs with ⟨g2, g3, g4⟩ | ⟨b, o, ha, hvc⟩
              · exact .inl ⟨by simp [g2], by omega, g4⟩
              · exact .inr ⟨b, o, ha, by rw [List.append_nil]; exact VC.mono hE2.stays _ _ _ hvc⟩
            · simp only [upd_same]
              rw [show cap - (len + 0) = 0 by omega, Nat.zero_mul]
      · -- a new row
        have hcap : cap < len + n := by omega
        obtain ⟨os, hos, hfirst⟩ : ∃ os : List Value, VL Γ1.S Γ1.w xs os ∧ ∀ w2, (∀ b o, w2.cell? ⟨b, o, none⟩ = Γ1.w.cell? ⟨b, o, none⟩) → (Builtin.firstCells e len (.slice a len cap)).run P w2 = .ok os.toArray w2 := by
          rcases hxs with ⟨rfl, rfl, rfl⟩ | ⟨b, o, rfl, hvc⟩
          · exact ⟨[], VL.nil, fun w2 _ => by cases a <;> simp [Builtin.firstCells, loadCells, loadCellsFrom]⟩
          · obtain ⟨os, g1, g2⟩ := Firsts.ofReads (P := P) (n := e) (k := len) (cap := cap) (len := len) (.ofVC hvc) hxl
            refine ⟨os, g1, fun w2 hw2 => ?_⟩
            have := g2 len (Nat.le_refl _) w2 hw2
            rwa [List.take_of_length_le (by rw [← ((VL_iff _ _).1 g1).1, hxl]; exact Nat.le_refl _)] at this
        have hol : os.length = len * e := by rw [← ((VL_iff _ _).1 hos).1, hxl]
        obtain ⟨newCap, rest, hnc, hrun, hrest⟩ := run_append_new (P := P) (Γ := Γ) h0t hu he hi hzv hsrc hol (a := a) (hfirst Γ.w.drew (fun b o => by rw [hw1]; rfl)) hcap (hC _ _ _ hcap hby) h63 ty
        obtain ⟨hI2, hE2⟩ := hI1.drew
        have hvl2 : VL Γ1.S Γ1.w.drew (xs ++ ys) (os ++ us) := by
          refine VL.append (VL.mono hE2.stays _ _ hos) (VL.mono ?_ _ _ hus)
          exact (hE1.trans hE2).stays
        obtain ⟨hI3, hE3, hvc3⟩ := hI2.allocTok (d := d) (t := (Γ1.s d).t + 1) (e := e) (by simp) (os ++ us ++ rest).toArray el (xs ++ ys) (os ++ us) hvl2 rest (by simp)
        have hrl : rest.length = (newCap - (len + n)) * e := by
          rw [hrest]; simp [hzs]
        refine ⟨.slice (some ⟨Γ.w.heap.size, 0, none⟩) (len + n) newCap, _, ?_, ?_, hI3, hE1.trans (hE2.trans hE3), ?_⟩
        · rw [hrun, hw1]
        · rfl
        · refine ⟨⟨_, newCap, rfl, hnc, by simp, ⟨rfl, by simp⟩, .inr ⟨_, 0, rfl, ?_⟩⟩, by simp, fun e2 he2 => ⟨_, newCap, rfl, ?_, fun _ => ⟨0, ?_, ?_⟩⟩⟩
          · have := hvc3
            simp only [World.size_drew, hw1] at this
            simpa only [World.size_drew, hw1] using this
          · have : e2 = e := by simp at he2; exact he2.symm
            subst this
            simp only [upd_same]; exact hrl
          · simp [hw1]
          · simp only [upd_same, Nat.zero_add]
    · cases h
  · cases h
theorem appendA_X (at_ : Array TypeId) (d : Nat) (s : St) (x y : AV) : appendA P at_ d s x y = appendX P (fun a b => decide (a * b ≤ 140737488355328)) at_ d s x y := by
  unfold appendA appendX
  simp only [decide_eq_true_eq]
theorem appendA_ok (hI : Inv Γ) {at_ : Array TypeId} {d : Nat} {x y r : AV} {s' : St} (h : appendA P at_ d Γ.s x y = some (r, s')) {vx vy : Value} (hx : V Γ x vx) (hy : V Γ y vy) (ty : TypeId) :
    SemOk P (Builtin.append_ at_ ty #[vx, vy]) Γ s' r := by
  rw [appendA_X] at h
  exact appendX_ok hI (fun need old bytes h1 h2 => growslice_fits h1 (by simpa using h2)) h hx hy ty
theorem nextslicecap_le_wideY {need old : Nat} (h : old < need) : Builtin.nextslicecap need old ≤ need + need / 4 + 192 := by
  unfold Builtin.nextslicecap
  split
  · omega
  · split
    · omega
    · rw [growBy_four]
      repeat' split
      all_goals omega
theorem appendW_ok (hI : Inv Γ) {at_ : Array TypeId} {d : Nat} {x y r : AV} {s' : St} (h : appendW P at_ d Γ.s x y = some (r, s')) {vx vy : Value} (hx : V Γ x vx) (hy : V Γ y vy) (ty : TypeId) :
    SemOk P (Builtin.append_ at_ ty #[vx, vy]) Γ s' r :=
  appendX_ok hI (fun need old bytes h1 h2 => by
    simp only [wideC, Bool.and_eq_true, beq_iff_eq, decide_eq_true_eq] at h2
    have := nextslicecap_le_wideY h1
    rw [h2.1]
    omega) h hx hy ty
end
end Go.Ab

/- Literals of structs, arrays and slices. No conditions. -/
namespace Go.Ab
section
variable {P : Program} {Γ : G}

theorem foldl_splice (off : Nat) : ∀ (l : List Value) (k : Nat) (cs : List Value), off + k + l.length ≤ cs.length →
    (l.zipIdx k).foldl (fun (cs : Array Value) (x : Value × Nat) => cs.setIfInBounds (off + x.2) x.1) cs.toArray = (cs.take (off + k) ++ l ++ cs.drop (off + k + l.length)).toArray
  | [], k, cs, h => by simp
  | v :: l, k, cs, h => by
    simp only [List.zipIdx_cons, List.foldl_cons, List.setIfInBounds_toArray]
    rw [foldl_splice off l (k + 1) (cs.set (off + k) v) (by simp at h ⊢; omega)]
    congr 1
    simp at h
    have h1 : (cs.set (off + k) v).take (off + (k + 1)) = cs.take (off + k) ++ [v] := by
      rw [List.set_eq_take_append_cons_drop, if_pos (by omega)]
      rw [show off + (k + 1) = (cs.take (off + k)).length + 1 by simp; omega, List.take_append]
      simp
      exact List.take_of_length_le (by simp)
    have h2 : (cs.set (off + k) v).drop (off + (k + 1) + l.length) = cs.drop (off + k + (v :: l).length) := by
      rw [List.drop_set_of_lt (by omega)]
      congr 1; simp; omega
    rw [h1, h2]; simp
theorem fold_cells (off : Nat) (us cs : List Value) (h : off + us.length ≤ cs.length) :
    (us.toArray.zipIdx.foldl (fun (cs : Array Value) (x : Value × Nat) => cs.setIfInBounds (off + x.2) x.1) cs.toArray) = (cs.take off ++ us ++ cs.drop (off + us.length)).toArray := by
  have := foldl_splice off us 0 cs (by simpa using h)
  rw [Nat.add_zero] at this
  rw [← this, ← Array.foldl_toList]
  simp

theorem VL.splice {S : Nat → Nat → Prop} {w : World} {cs ys : List AV} {vs us : List Value} (h : VL S w cs vs) (k : VL S w ys us) (off : Nat) :
    VL S w (splice cs off ys) (vs.take off ++ us ++ vs.drop (off + us.length)) := by
  unfold Ab.splice
  rw [((VL_iff _ _).1 k).1]
  exact ((h.take off).append k).append (h.drop _)

inductive VP (Γ : G) : List (Nat × AV) → List (Nat × Value) → Prop
  | nil : VP Γ [] []
  | cons {i : Nat} {x : AV} {v : Value} {xs : List (Nat × AV)} {vs : List (Nat × Value)} : V Γ x v → VP Γ xs vs → VP Γ ((i, x) :: xs) ((i, v) :: vs)

theorem fill_ok {pa : Nat → Option (Nat × Nat)} {pl : Nat → Option (Nat × Nat)} (hp : ∀ i q, pa i = some q → pl i = some q) :
    ∀ (parts : List (Nat × AV)) (vparts : List (Nat × Value)) (cs r : List AV) (vs : List Value), VP Γ parts vparts → fillA pa cs parts = some r → VL Γ.S Γ.w cs vs →
      ∃ us : List Value, Instr.fill pl vs.toArray vparts = some us.toArray ∧ VL Γ.S Γ.w r us
  | [], _, cs, r, vs, hv, h, hl => by
    cases hv
    simp [fillA] at h; subst h
    exact ⟨vs, rfl, hl⟩
  | (i, x) :: parts, _, cs, r, vs, hv, h, hl => by
    cases hv with
    | cons hx hr =>
      rename_i v vr
      simp only [fillA] at h
      split at h
      · rename_i off size ys hpa hys
        split at h
        · rename_i hc
          simp only [Option.bind_eq_some_iff] at hys
          obtain ⟨x', hs, hcs⟩ := hys
          obtain ⟨us, hvc, hul⟩ := cellsOf_ok hcs (settled_ok hs hx)
          have hlu := ((VL_iff _ _).1 hul).1
          have hlv := ((VL_iff _ _).1 hl).1
          obtain ⟨us', g1, g2⟩ := fill_ok hp parts vr (Ab.splice cs off ys) r _ hr h (hl.splice hul off)
          refine ⟨us', ?_, g2⟩
          have h1 : ¬ (v.cells.size ≠ size) := by rw [hvc]; simp; omega
          have h2 : ¬ (off + v.cells.size > vs.toArray.size) := by rw [hvc]; simp; omega
          simp only [Instr.fill, hp _ _ hpa]
          rw [if_neg (by simp only [Bool.or_eq_true, decide_eq_true_eq]; omega)]
          rw [hvc, fold_cells off us vs (by omega)]
          exact g1
        · cases h
      · cases h

theorem run_places {fs : Array Field} {pl : List (Nat × Nat)} (h : fs.toList.mapM (fun f => (P.info? f.type).map fun i => (f.offset, i.size)) = some pl) (w : World) :
    (fs.mapM (fun f => do pure (f.offset, ← sizeOf f.type) : Field → Sem (Nat × Nat))).run P w = .ok pl.toArray w := by
  rw [Array.mapM_eq_mapM_toList]
  have key : ∀ (l : List Field) (pl : List (Nat × Nat)), l.mapM (fun f => (P.info? f.type).map fun i => (f.offset, i.size)) = some pl →
      (l.mapM (fun f => do pure (f.offset, ← sizeOf f.type) : Field → Sem (Nat × Nat))).run P w = .ok pl w := by
    intro l
    induction l with
    | nil => intro pl h; simp at h; subst h; rfl
    | cons f l ih =>
      intro pl h
      rw [List.mapM_cons] at h ⊢
      simp only [Option.bind_eq_bind, Option.bind_eq_some_iff, Option.map_eq_some_iff] at h
      obtain ⟨q, ⟨i, hi, rfl⟩, r, hr, h⟩ := h
      cases h
      have hs : (sizeOf f.type).run P w = .ok i.size w := by simp [sizeOf, typeInfo, hi]
      simp only [Sem.run_bind, hs, Result.andThen_ok, Sem.run_pure, ih _ hr]
  simp only [Sem.run_map, key _ _ h, Result.andThen_ok]

theorem buildA_st {t : Nat} {z r : List AV} {pl : List (Nat × Nat)} {parts : List (Nat × AV)} {vparts : Array (Nat × Value)} (hz : zeroOf P t = some z) (hp : placesA P t = some pl) (hv : VP Γ parts vparts.toList)
    (h : fillA (fun i => pl[i]?) z parts = some r) : PureOk P (Instr.build t vparts) Γ (.agg r) := by
  obtain ⟨zv, h1, rfl, h2⟩ := zeroOf_all hz
  unfold placesA at hp
  split at hp
  · rename_i fs hu
    obtain ⟨us, g1, g2⟩ := fill_ok (pl := fun i => pl.toArray[i]?) (fun i q hq => by simpa using hq) parts _ _ r _ hv h (h2 Γ.S Γ.w)
    refine ⟨.agg us.toArray, ?_, (V_tree rfl).2 ⟨us, rfl, g2⟩⟩
    simp only [Array.toArray_toList] at g1
    simp only [Instr.build, Sem.run_bind, h1, Result.andThen_ok, run_underlying hu, run_places hp, g1]
    rfl
  · cases hp
theorem fill_snoc {pl : Nat → Option (Nat × Nat)} {i : Nat} {v : Value} : ∀ (ps : List (Nat × Value)) (cs cs' : Array Value), Instr.fill pl cs ps = some cs' → Instr.fill pl cs (ps ++ [(i, v)]) = Instr.fill pl cs' [(i, v)]
  | [], cs, cs', h => by simp only [Instr.fill, Option.some.injEq] at h; subst h; rfl
  | (j, x) :: ps, cs, cs', h => by
    simp only [Instr.fill, List.cons_append] at h ⊢
    cases hj : pl j with
    | none => rw [hj] at h; cases h
    | some q =>
      rw [hj] at h
      dsimp only at h ⊢
      split at h
      · cases h
      · rename_i h1
        rw [if_neg h1]
        exact fill_snoc ps _ _ h
theorem VP_snoc {ps : List (Nat × AV)} {i : Nat} {x : AV} {vs : List (Nat × Value)} (h : VP Γ (ps ++ [(i, x)]) vs) : ∃ us v, vs = us ++ [(i, v)] ∧ VP Γ ps us ∧ V Γ x v := by
  induction ps generalizing vs with
  | nil => cases h with | cons hx hr => cases hr; exact ⟨[], _, rfl, .nil, hx⟩
  | cons y ps ih =>
    obtain ⟨j, y⟩ := y
    cases h with
    | cons hx hr =>
      obtain ⟨us, v, rfl, h1, h2⟩ := ih hr
      exact ⟨_ :: us, v, rfl, .cons hx h1, h2⟩
theorem fillA_len {pa : Nat → Option (Nat × Nat)} : ∀ (parts : List (Nat × AV)) (cs r : List AV), fillA pa cs parts = some r → r.length = cs.length
  | [], cs, r, h => by simp only [fillA, Option.some.injEq] at h; rw [h]
  | (i, x) :: parts, cs, r, h => by
    simp only [fillA] at h
    split at h
    · split at h
      · rename_i hc
        rw [fillA_len parts _ _ h, splice_length (by omega)]
      · cases h
    · cases h
theorem oneCell_cells {v : Value} (h : v.oneCell' = true) : v.cells = #[v] := by
  cases v <;> first | rfl | cases h
theorem buildG_ok {t : Nat} {r : AV} {parts : List (Nat × AV)} {vparts : Array (Nat × Value)} (hv : VP Γ parts vparts.toList) (h : buildG P t parts = some r) : PureOk P (Instr.build t vparts) Γ r := by
  unfold buildG at h
  split at h
  · rename_i i q u o len e ht hg
    simp only [Option.bind_eq_some_iff] at h
    obtain ⟨z, hz, pl, hp, h⟩ := h
    split at h
    · rename_i off hi
      split at h
      · rename_i ho
        obtain ⟨r', hr, rfl⟩ := Option.map_eq_some_iff.1 h
        have hps : parts = parts.dropLast ++ [(i, .own q u o len e)] := by
          obtain ⟨hne, hl⟩ := List.getLast?_eq_some_iff.1 hg |>.imp fun _ h => h
          rw [hl]; simp
        rw [hps] at hv
        obtain ⟨us, v, hvs, h1, h2⟩ := VP_snoc hv
        obtain ⟨zv, k1, rfl, k2⟩ := zeroOf_all hz
        unfold placesA at hp
        split at hp
        · rename_i fs hu
          obtain ⟨ws, g1, g2⟩ := fill_ok (pl := fun i => pl.toArray[i]?) (fun i q hq => by simpa using hq) parts.dropLast _ _ r' _ h1 hr (k2 Γ.S Γ.w)
          simp only [Array.toArray_toList] at g1
          have hlw : r'.length = ws.length := ((VL_iff _ _).1 g2).1
          have hrl : r'.length = zv.cells.toList.length := by simpa using fillA_len _ _ _ hr
          have hvc := oneCell_cells h2.1.2
          have g3 : Instr.fill (fun i => pl.toArray[i]?) ws.toArray [(i, v)] = some (ws.take off ++ [v]).toArray := by
            have hpi : pl.toArray[i]? = some (off, 1) := by simpa using hi
            have n1 : ¬ (v.cells.size ≠ 1) := by rw [hvc]; simp
            have n2 : ¬ (off + v.cells.size > ws.toArray.size) := by rw [hvc]; simp; simp at hrl ho; omega
            simp only [Instr.fill, hpi]
            rw [if_neg (by simp only [Bool.or_eq_true, decide_eq_true_eq]; omega), hvc]
            have := fold_cells off [v] ws (by simp at hrl ho ⊢; omega)
            rw [this]
            have hd : ws.drop (off + [v].length) = [] := List.drop_of_length_le (by simp at hrl ho ⊢; omega)
            rw [hd, List.append_nil]
          have g4 := (fill_snoc (i := i) (v := v) _ _ _ g1).trans g3
          rw [← hvs] at g4
          refine ⟨.agg (ws.take off ++ [v]).toArray, ?_, ⟨ws.take off, v, rfl, g2.take off, h2.1.2, h2.1.1, h2.2⟩⟩
          simp only [Instr.build, Sem.run_bind, k1, Result.andThen_ok, run_underlying hu, run_places hp, g4]
          rfl
        · cases hp
      · cases h
    · cases h
  · cases h
theorem buildA_arr {t m e n : Nat} {z r : List AV} {parts : List (Nat × AV)} {vparts : Array (Nat × Value)} (hz : zeroOf P t = some z) (ht : tkOf P t = .arr m e) (hn : esz P e = some n) (hv : VP Γ parts vparts.toList)
    (h : fillA (fun i => some (i * n, n)) z parts = some r) : PureOk P (Instr.build t vparts) Γ (.agg r) := by
  obtain ⟨zv, h1, rfl, h2⟩ := zeroOf_all hz
  obtain ⟨us, g1, g2⟩ := fill_ok (pl := fun i => some (i * n, n)) (fun i q hq => hq) parts _ _ r _ hv h (h2 Γ.S Γ.w)
  refine ⟨.agg us.toArray, ?_, (V_tree rfl).2 ⟨us, rfl, g2⟩⟩
  simp only [Array.toArray_toList] at g1
  simp only [Instr.build, Sem.run_bind, h1, Result.andThen_ok, run_underlying (tk_arr ht), run_esz hn, g1]
  rfl

theorem buildSlice_ok (hI : Inv Γ) {t len e n : Nat} {z r : List AV} {parts : List (Nat × AV)} {vparts : Array (Nat × Value)} (ht : tkOf P t = .sl e) (hn : esz P e = some n) (hz : zeroOf P e = some z) (hzl : z.length = n) (hln : len * n ≤ 4096)
    (hv : VP Γ parts vparts.toList) (h : fillA (fun i => some (i * n, n)) (rep len z) parts = some r) : SemOk P (Instr.buildSlice t len vparts) Γ Γ.s (.sl r len .tight) := by
  obtain ⟨zv, h1, rfl, h2⟩ := zeroOf_all hz
  have hzs : zv.cells.size = n := by simpa using hzl
  obtain ⟨us, g1, g2⟩ := fill_ok (pl := fun i => some (i * n, n)) (fun i q hq => hq) parts _ _ r _ hv h (VL_rep (h2 Γ.S Γ.w) len)
  have hnp := (esz_info hn).choose_spec.2.2
  obtain ⟨Γ', hs', hw', hI', hE', hvc⟩ := hI.row (w' := Γ.w.alloc (.cells us.toArray e)) rfl rfl rfl (by simp) (fun k hk => by
    show (Γ.w.heap.push _)[k]? = _
    rw [Array.getElem?_push, if_neg (by omega)]) r us g2 (fun i v hv => by rw [World.cell?_alloc_new]; simpa using hv)
  refine ⟨.slice (some ⟨Γ.w.heap.size, 0, none⟩) len len, Γ', ?_, hs', hI', hE', V_cell ⟨_, len, rfl, Nat.le_refl _, fun _ => rfl, ⟨rfl, by simp⟩, .inr ⟨_, 0, rfl, hvc⟩⟩⟩
  rw [hw']
  have hbig : ¬ (len * n > 2 ^ 24) := by omega
  have hcells : ((Array.range (len * n)).map fun j => zv.cells[j % zv.cells.size]!) = ((List.replicate len zv.cells.toList).flatten).toArray := by
    have := range_rep zv.cells len
    rwa [hzs] at this ⊢
  by_cases h0 : len * n = 0
  · have hl0 : len = 0 := by
      rcases Nat.mul_eq_zero.1 h0 with h | h
      · exact h
      · omega
    subst hl0
    have g1' : Instr.fill (fun i => some (i * n, n)) #[] vparts.toList = some us.toArray := by simpa using g1
    have hm : ∀ f : Nat → Value, (Array.range 0).map f = #[] := fun f => by rw [show Array.range 0 = #[] from rfl, Array.map_empty]
    have hb0 : ¬ (0 > 2 ^ 24) := by omega
    simp only [Instr.buildSlice, Sem.run_bind, run_underlying (tk_sl ht), Result.andThen_ok, run_esz hn, Nat.zero_mul, hb0, if_false, if_true, Sem.run_pure, hm, g1', newRow, run_newObj, World.alloc_eq]
  · simp only [Instr.buildSlice, Sem.run_bind, run_underlying (tk_sl ht), Result.andThen_ok, run_esz hn, hbig, if_false, h0, Sem.run_pure, h1, hcells, g1, newRow, run_newObj, World.alloc_eq]
end
end Go.Ab

/- The state behind a call: what the callee left, put together with what the caller kept. No conditions. -/
namespace Go.Ab

structure Lent (Γ1 Γc : G) (J : Nat → Option Nat) : Prop where
  S : Γc.S = Γ1.S
  w : Γc.w = Γ1.w
  here : ∀ j p, J j = some p → (Γc.s j).c = (Γ1.s p).c ∧ Γc.φ j = Γ1.φ p
  none : ∀ j, J j = none → (Γc.s j).c = .dead
  inj : ∀ j k p, J j = some p → J k = some p → j = k
  plain : ∀ j p, J j = some p → ∀ xs hs, (Γ1.s p).c ≠ .mix xs hs

theorem Lent.rg {Γ1 Γc : G} {J : Nat → Option Nat} (h : Lent Γ1 Γc J) {j b o : Nat} (hr : Rg Γc j b o) : ∃ p, J j = some p ∧ Rg Γ1 p b o := by
  cases hj : J j with
  | none => unfold Rg at hr; rw [h.none j hj] at hr; exact hr.elim
  | some p =>
    obtain ⟨h1, h2⟩ := h.here j p hj
    refine ⟨p, rfl, ?_⟩
    unfold Rg at hr ⊢
    rw [h1, h2] at hr
    exact hr

theorem Lent.inv {Γ1 Γc : G} {J : Nat → Option Nat} (h : Lent Γ1 Γc J) (hI : Inv Γ1) : Inv Γc := by
  refine ⟨⟨fun j => ?_, fun j k b o hjk hj hk => ?_, fun b o hs => ?_⟩, fun j t xs hs hj => by
    cases hJ : J j with
    | none => have := h.none j hJ; rw [hj] at this; cases this
    | some p => exact absurd (by rw [← (h.here j p hJ).1, hj]) (h.plain j p hJ xs hs)⟩
  · unfold EntOk
    rw [h.S, h.w]
    cases hj : J j with
    | none => rw [h.none j hj]; simp [EntC]
    | some p =>
      obtain ⟨h1, h2⟩ := h.here j p hj
      rw [h1, h2]; exact hI.ent p
  · obtain ⟨p, hp, h1⟩ := h.rg hj
    obtain ⟨q, hq, h2⟩ := h.rg hk
    exact hI.apart p q b o (fun e => hjk (h.inj j k p hp (e ▸ hq))) h1 h2
  · rw [h.S] at hs
    obtain ⟨h1, h2⟩ := hI.stay b o hs
    refine ⟨by rw [h.w]; exact h1, fun j hj => ?_⟩
    obtain ⟨p, _, h3⟩ := h.rg hj
    exact h2 p h3

structure Mix (Γ1 Γ' Γ3 : G) (J : Nat → Option Nat) (C : Nat → Option Nat) : Prop where
  S : Γ3.S = Γ'.S
  w : Γ3.w = Γ'.w
  ser : ∀ q, (Γ1.s q).t ≤ (Γ3.s q).t
  kept : ∀ q, C q = none → ((Γ3.s q).c = .dead ∧ True) ∨ (Γ3.s q = Γ1.s q ∧ Γ3.φ q = Γ1.φ q ∧ ∀ j, J j ≠ some q)
  mine : ∀ q j, C q = some j → (Γ3.s q).c = (Γ'.s j).c ∧ Γ3.φ q = Γ'.φ j
  inj : ∀ q r j, C q = some j → C r = some j → q = r
  plain : ∀ q j, C q = some j → ∀ xs hs, (Γ'.s j).c ≠ .mix xs hs
  old : ∀ q j, C q = some j → (Γ1.s q).t < (Γ3.s q).t ∨ (J j = some q ∧ (Γ3.s q).t = (Γ1.s q).t ∧ ∃ xs, Γ'.s j = ⟨0, .buf xs⟩)

theorem Mix.ok {Γ1 Γc Γ' Γ3 : G} {J C : Nat → Option Nat} (hI : Inv Γ1) (hL : Lent Γ1 Γc J) (hI' : Inv Γ') (hE : Ext Γc Γ') (hM : Mix Γ1 Γ' Γ3 J C) : Inv Γ3 ∧ Ext Γ1 Γ3 := by
  have hst : Stays Γ1.S Γ1.w Γ3.S Γ3.w := by
    have := hE.stays
    rw [hL.S, hL.w] at this
    rw [hM.S, hM.w]; exact this
  have hsz : Γ1.w.heap.size ≤ Γ3.w.heap.size := by have := hE.size; rw [hL.w] at this; rw [hM.w]; exact this
  have hnoc : ∀ {b o}, (∀ p, ¬ Rg Γ1 p b o) → ∀ j, ¬ Rg Γc j b o := fun h j hj => by
    obtain ⟨p, _, hp⟩ := hL.rg hj
    exact h p hp
  have hcell : ∀ b o, b < Γ1.w.heap.size → (∀ j, ¬ Rg Γc j b o) → Γ3.w.cell? ⟨b, o, none⟩ = Γ1.w.cell? ⟨b, o, none⟩ := fun b o hb h => by
    have := hE.cell b o (by rw [hL.w]; exact hb) h
    rw [hL.w] at this; rw [hM.w]; exact this
  have hfrz : ∀ b o, b < Γ1.w.heap.size → (∀ j, ¬ Rg Γc j b o) → Γ3.w.frozen? ⟨b, o, none⟩ = Γ1.w.frozen? ⟨b, o, none⟩ := fun b o hb h => by
    have := hE.frzn b o (by rw [hL.w]; exact hb) h
    rw [hL.w] at this; rw [hM.w]; exact this
  -- the regions of the state behind
  have hrg : ∀ q b o, Rg Γ3 q b o → (C q = none ∧ Rg Γ1 q b o ∧ ∀ j, J j ≠ some q) ∨ ∃ j, C q = some j ∧ Rg Γ' j b o := fun q b o h => by
    cases hq : C q with
    | none =>
      rcases hM.kept q hq with ⟨h1, _⟩ | ⟨h1, h2, h3⟩
      · unfold Rg at h; rw [h1] at h; exact h.elim
      · exact .inl ⟨rfl, by unfold Rg at h ⊢; rwa [h1, h2] at h, h3⟩
    | some j =>
      obtain ⟨h1, h2⟩ := hM.mine q j hq
      exact .inr ⟨j, rfl, by unfold Rg at h ⊢; rwa [h1, h2] at h⟩
  have hkc : ∀ q b o, Rg Γ1 q b o → (∀ j, J j ≠ some q) → ∀ j, ¬ Rg Γc j b o := fun q b o h h3 j hj => by
    obtain ⟨p, hp, h4⟩ := hL.rg hj
    exact hI.apart q p b o (fun e => h3 j (e ▸ hp)) h h4
  have hmix : ∀ q j b o, Rg Γ1 q b o → (∀ j, J j ≠ some q) → ¬ Rg Γ' j b o := fun q j b o h h3 h4 => by
    rcases hE.newR j b o h4 with ⟨k, hk⟩ | hk
    · exact hkc q b o h h3 k hk
    · have := hI.blk h; rw [hL.w] at hk; omega
  refine hI.more (fun q t xs hs h => ?_) ?_
  · cases hq : C q with
    | some j => exact absurd (by rw [← (hM.mine q j hq).1, h]) (hM.plain q j hq xs hs)
    | none =>
      rcases hM.kept q hq with ⟨h1, _⟩ | ⟨h1, h2, h3⟩
      · rw [h] at h1; cases h1
      · rw [h] at h1
        refine ⟨h1.symm, h2, fun o _ => ?_⟩
        have hr : Rg Γ1 q (Γ1.φ q).blk o := by unfold Rg; rw [← h1]
        exact hcell _ _ (hI.blk hr) (hkc q _ _ hr h3)
  refine ⟨⟨fun q => ?_, fun q r b o hqr h1 h2 => ?_, fun b o hs => ?_⟩,
    ⟨hst, by rw [hM.w, hE.os, hL.w], by rw [hM.w, hE.tape, hL.w], by rw [hM.w, hE.output, hL.w], hsz, fun b hb hn => ?_, fun b o hb hn => hcell b o hb (hnoc hn), fun b o hb hn => hfrz b o hb (hnoc hn), fun b o hs => ?_, fun q b o h => ?_, hM.ser, fun q t xs' ht hc => ?_, fun q t e ht hc => ?_⟩⟩
  · cases hq : C q with
    | some j =>
      obtain ⟨h1, h2⟩ := hM.mine q j hq
      unfold EntOk
      rw [h1, h2, hM.S, hM.w]
      exact hI'.ent j
    | none =>
      rcases hM.kept q hq with ⟨h1, _⟩ | ⟨h1, h2, h3⟩
      · unfold EntOk; rw [h1]; simp [EntC]
      · have he := hI.ent q
        unfold EntOk at he ⊢
        rw [h1, h2]
        have hck : ∀ o, Rg Γ1 q (Γ1.φ q).blk o → Γ3.w.cell? ⟨(Γ1.φ q).blk, o, none⟩ = Γ1.w.cell? ⟨(Γ1.φ q).blk, o, none⟩ ∧ Γ3.w.frozen? ⟨(Γ1.φ q).blk, o, none⟩ = Γ1.w.frozen? ⟨(Γ1.φ q).blk, o, none⟩ := fun o ho =>
          ⟨hcell _ _ (hI.blk ho) (hkc q _ _ ho h3), hfrz _ _ (hI.blk ho) (hkc q _ _ ho h3)⟩
        unfold Rg at hck
        unfold EntC at he ⊢
        split at he
        · trivial
        · rename_i xs hx
          rw [hx] at hck
          refine ⟨by have := he.1; omega, fun o => by rw [(hck o rfl).2]; exact he.2.1 o, fun i x hi => ?_, fun i hi => ?_⟩
          · obtain ⟨v, g1, g2, g3⟩ := he.2.2.1 i x hi
            exact ⟨v, by rw [(hck _ rfl).1]; exact g1, g2, V0.mono hst _ _ g3⟩
          · obtain ⟨v, g1⟩ := he.2.2.2 i hi
            exact ⟨v, by rw [(hck _ rfl).1]; exact g1⟩
        · exact VC.mono hst _ _ _ he
        · rename_i xs hs hx
          rw [hx] at hck
          refine ⟨by have := he.1; omega, fun o => by rw [(hck o rfl).2]; exact he.2.1 o, fun i x hi => ?_, fun i hi => ?_⟩
          · obtain ⟨v, g1, g2, g3⟩ := he.2.2.1 i x hi
            exact ⟨v, by rw [(hck _ rfl).1]; exact g1, g2, V0.mono hst _ _ g3⟩
          · obtain ⟨v, g1⟩ := he.2.2.2 i hi
            exact ⟨v, by rw [(hck _ rfl).1]; exact g1⟩
        · rename_i e hx
          rw [hx] at hck
          intro i hi
          obtain ⟨⟨v, g1⟩, g2⟩ := he i hi
          have := hck ((Γ1.φ q).base + i) ⟨rfl, by omega, by omega⟩
          exact ⟨⟨v, by rw [this.1]; exact g1⟩, by rw [this.2]; exact g2⟩
  · rcases hrg q b o h1 with ⟨_, g1, g2⟩ | ⟨j, g1, g2⟩
    · rcases hrg r b o h2 with ⟨_, k1, k2⟩ | ⟨k, k1, k2⟩
      · exact hI.apart q r b o hqr g1 k1
      · exact hmix q k b o g1 g2 k2
    · rcases hrg r b o h2 with ⟨_, k1, k2⟩ | ⟨k, k1, k2⟩
      · exact hmix r j b o k1 k2 g2
      · exact hI'.apart j k b o (fun e => hqr (hM.inj q r j g1 (e ▸ k1))) g2 k2
  · rw [hM.S] at hs
    obtain ⟨h1, h2⟩ := hI'.stay b o hs
    refine ⟨by rw [hM.w]; exact h1, fun q hq => ?_⟩
    rcases hrg q b o hq with ⟨_, g1, g2⟩ | ⟨j, g1, g2⟩
    · rcases hE.newS b o hs with k | ⟨j, k⟩ | k
      · rw [hL.S] at k; exact (hI.stay b o k).2 q g1
      · exact hkc q b o g1 g2 j k
      · have := hI.blk g1; rw [hL.w] at k; omega
    · exact h2 j g2
  · have := hE.block b (by rw [hL.w]; exact hb) (fun j o hj => by obtain ⟨p, _, hp⟩ := hL.rg hj; exact hn p o hp)
    rw [hL.w] at this; rw [hM.w]; exact this
  · rw [hM.S] at hs
    rcases hE.newS b o hs with k | ⟨j, k⟩ | k
    · rw [hL.S] at k; exact .inl k
    · obtain ⟨p, _, hp⟩ := hL.rg k; exact .inr (.inl ⟨p, hp⟩)
    · rw [hL.w] at k; exact .inr (.inr k)
  · rcases hrg q b o h with ⟨_, g1, _⟩ | ⟨j, _, g2⟩
    · exact .inl ⟨q, g1⟩
    · rcases hE.newR j b o g2 with ⟨k, hk⟩ | hk
      · obtain ⟨p, _, hp⟩ := hL.rg hk; exact .inl ⟨p, hp⟩
      · rw [hL.w] at hk; exact .inr hk
  · cases hq : C q with
    | none =>
      rcases hM.kept q hq with ⟨h1, _⟩ | ⟨h1, h2, _⟩
      · rcases cellsAt_cases hc with g | g | ⟨_, g⟩ <;> rw [g] at h1 <;> cases h1
      · refine ⟨⟨xs', ?_, rfl⟩, h2⟩
        unfold cellsAt at hc ⊢; rwa [h1] at hc
    | some j =>
      rcases hM.old q j hq with h1 | ⟨h1, h2, ys, h3⟩
      · have : (Γ3.s q).t = t := by rcases cellsAt_cases hc with g | g | ⟨_, g⟩ <;> rw [g]
        omega
      · obtain ⟨g1, g2⟩ := hM.mine q j hq
        obtain ⟨k1, k2⟩ := hL.here j q h1
        have hc3 : (Γ3.s q).c = .buf ys := by rw [g1, h3]
        have hcq : Γ3.s q = ⟨t, .buf xs'⟩ := by
          rcases cellsAt_cases hc with g | g | ⟨_, g⟩
          · exact g
          · rw [g] at hc3; cases hc3
          · rw [g] at hc3; cases hc3
        have hxy : xs' = ys := by rw [hcq] at hc3; cases hc3; rfl
        subst hxy
        obtain ⟨⟨zs, hz, hzl⟩, hphi⟩ := hE.bf j 0 xs' (Nat.zero_le _) (by simp [cellsAt, h3])
        refine ⟨⟨zs, ?_, hzl⟩, by rw [g2, hphi, k2]⟩
        have ht1 : (Γ1.s q).t = t := by rw [← h2, hcq]
        have hbuf : ∃ c, (Γ1.s q).c = c ∧ (c = .buf zs ∨ c = .frz zs ∨ ∃ hs, c = .mix zs hs) := by
          rcases cellsAt_cases hz with g | g | ⟨hs, g⟩
          · exact ⟨_, by rw [← k1, g], .inl rfl⟩
          · exact ⟨_, by rw [← k1, g], .inr (.inl rfl)⟩
          · exact ⟨_, by rw [← k1, g], .inr (.inr ⟨hs, rfl⟩)⟩
        obtain ⟨c, hb, hcc⟩ := hbuf
        unfold cellsAt
        rw [show Γ1.s q = ⟨t, c⟩ by rw [← ht1, ← hb]]
        rcases hcc with rfl | rfl | ⟨hs, rfl⟩ <;> simp
  · cases hq : C q with
    | none =>
      rcases hM.kept q hq with ⟨h1, _⟩ | ⟨h1, h2, _⟩
      · rw [hc] at h1; cases h1
      · exact ⟨by rw [← h1]; exact hc, h2⟩
    | some j =>
      rcases hM.old q j hq with h1 | ⟨h1, h2, ys, h3⟩
      · rw [hc] at h1; dsimp only at h1; omega
      · obtain ⟨g1, g2⟩ := hM.mine q j hq
        rw [hc, h3] at g1; cases g1
end Go.Ab

/- A call of a function of which it is known what it answers. No conditions. -/
namespace Go.Ab

structure ArgOk (Γ : G) (as1 : List Arg) (vs : List Value) : Prop where
  s : Γ.s = st0 as1
  len : as1.length = vs.length
  val : ∀ (j : Nat) (v : Value), vs[j]? = some v → V Γ (env0 as1 j) v
def Arg.mut : Arg → Bool
  | .ptr .. | .own .. => true
  | _ => false
def ResOk (Γ : G) (np : Nat) (v : Value) : Res → Prop
  | .tree x => V0 Γ.S Γ.w x v
  | .newp xs => ∃ p t, np ≤ p ∧ Γ.s p = ⟨t, .buf xs⟩ ∧ V Γ (.ptr p t 0) v
  | .own xs len e => ∃ p t, np ≤ p ∧ Γ.s p = ⟨t, .buf xs⟩ ∧ V Γ (.own p t 0 len e) v
  | .tok xs len e => ∃ p t, Γ.s p = ⟨t, .tok e⟩ ∧ V Γ (.sl xs len (.tok p t)) v
  | .owns xs len e rest => ∃ p t u us, np ≤ p ∧ Γ.s p = ⟨t, .buf xs⟩ ∧ v = .tuple (u :: us).toArray ∧ V Γ (.own p t 0 len e) u ∧ VT Γ.S Γ.w rest us
structure FinOk (Γ : G) (as1 : List Arg) (r : Res) (os : List (List AV)) (v : Value) : Prop where
  outs : ∀ (j : Nat) (a : Arg), as1[j]? = some a → a.mut = true → ∃ xs, os[j]? = some xs ∧ Γ.s j = ⟨0, .buf xs⟩
  res : ResOk Γ as1.length v r

def FnOk (P : Program) (call : FuncId → List Arg → Option Out) : Prop :=
  ∀ f as1 r os, call f as1 = some (r, os) → (∃ fn c, P.funcs[f]? = some fn ∧ fn.name ≠ "runtime.NumGoroutine" ∧ fn.body = some c) ∧ ∀ (Γ : G) (vs : List Value), Inv Γ → ArgOk Γ as1 vs →
    Calls P f vs.toArray Γ.w fun e w' => ∃ v Γ', e = .returned v ∧ Γ'.w = w' ∧ Inv Γ' ∧ Ext Γ Γ' ∧ FinOk Γ' as1 r os v

theorem VA_iff {Γ : G} {xs : List AV} {vs : List Value} : VA Γ xs vs ↔ xs.length = vs.length ∧ ∀ (j : Nat) (x : AV) (v : Value), xs[j]? = some x → vs[j]? = some v → V Γ x v := by
  constructor
  · intro h
    induction h with
    | nil => simp
    | cons h _ ih =>
      refine ⟨by simp [ih.1], fun j x v hx hv => ?_⟩
      cases j with
      | zero => simp at hx hv; subst hx; subst hv; exact h
      | succ j => exact ih.2 j x v (by simpa using hx) (by simpa using hv)
  · intro ⟨hl, h⟩
    induction xs generalizing vs with
    | nil => cases vs with
      | nil => exact .nil
      | cons _ _ => simp at hl
    | cons x xs ih => cases vs with
      | nil => simp at hl
      | cons v vs => exact .cons (h 0 x v rfl rfl) (ih (by simpa using hl) fun j x v hx hv => h (j + 1) x v (by simpa using hx) (by simpa using hv))

theorem Inv.sameHeap {Γ : G} (hI : Inv Γ) {w2 : World} (hos : w2.os = Γ.w.os) (ht : w2.tape = Γ.w.tape) (ho : w2.output = Γ.w.output) (hs : Γ.w.heap.size ≤ w2.heap.size) (hb : ∀ b, b < Γ.w.heap.size → w2.heap[b]? = Γ.w.heap[b]?) :
    Inv { Γ with w := w2 } ∧ Ext Γ { Γ with w := w2 } := by
  have hst : Stays Γ.S Γ.w Γ.S w2 := fun b o h => ⟨h, cell_of_block (hb b (hI.stay b o h).1) o⟩
  have hlt : ∀ {b o v}, Γ.w.cell? ⟨b, o, none⟩ = some v → b < Γ.w.heap.size := fun h => World.block_lt_of_cell? _ _ h
  refine hI.more (fun p t xs hs h => ⟨h, rfl, fun o ⟨v, hv⟩ => cell_of_block (hb _ (hlt hv)) o⟩) ?_
  refine ⟨⟨fun p => ?_, hI.apart, fun b o h => ⟨Nat.lt_of_lt_of_le (hI.stay b o h).1 hs, (hI.stay b o h).2⟩⟩, hst, hos, ht, ho, hs, fun b h _ => hb b h, fun b o h _ => cell_of_block (hb b h) o, fun b o h _ => frozen_of_block (hb b h) o, fun _ _ h => .inl h, fun p b o h => .inl ⟨p, h⟩,
    fun _ => Nat.le_refl _, fun _ _ xs _ h => ⟨⟨xs, h, rfl⟩, rfl⟩, fun _ _ _ _ h => ⟨h, rfl⟩⟩
  have he := hI.ent p
  unfold EntOk at he ⊢
  dsimp only
  unfold EntC at he ⊢
  split at he
  · trivial
  · have h1 := he.1
    refine ⟨Nat.lt_of_lt_of_le h1 hs, fun o => by rw [frozen_of_block (hb _ h1)]; exact he.2.1 o, fun i x hx => ?_, fun i hi => ?_⟩
    · obtain ⟨v, g1, g2, g3⟩ := he.2.2.1 i x hx
      exact ⟨v, by rw [cell_of_block (hb _ h1)]; exact g1, g2, V0.mono hst _ _ g3⟩
    · obtain ⟨v, g1⟩ := he.2.2.2 i hi
      exact ⟨v, by rw [cell_of_block (hb _ h1)]; exact g1⟩
  · exact VC.mono hst _ _ _ he
  · have h1 := he.1
    refine ⟨Nat.lt_of_lt_of_le h1 hs, fun o => by rw [frozen_of_block (hb _ h1)]; exact he.2.1 o, fun i x hx => ?_, fun i hi => ?_⟩
    · obtain ⟨v, g1, g2, g3⟩ := he.2.2.1 i x hx
      exact ⟨v, by rw [cell_of_block (hb _ h1)]; exact g1, g2, V0.mono hst _ _ g3⟩
    · obtain ⟨v, g1⟩ := he.2.2.2 i hi
      exact ⟨v, by rw [cell_of_block (hb _ h1)]; exact g1⟩
  · intro i hi
    obtain ⟨⟨v, g1⟩, g2⟩ := he i hi
    exact ⟨⟨v, by rw [cell_of_block (hb _ (hlt g1))]; exact g1⟩, by rw [frozen_of_block (hb _ (hlt g1))]; exact g2⟩

theorem Inv.freezeL {Γ : G} (hI : Inv Γ) : ∀ (ps : List Nat), ∃ Γ1, Quiet Γ (ps.foldl frzAt Γ.s) Γ1 ∧ Γ1.φ = Γ.φ ∧
    (∀ q, q ∉ ps → Γ1.s q = Γ.s q) ∧ ∀ q ∈ ps, (∀ xs hs, (Γ.s q).c ≠ .mix xs hs) → ∀ t xs, cellsAt Γ.s q t = some xs → Γ1.s q = ⟨t, .frz xs⟩ := by
  intro ps
  induction ps generalizing Γ with
  | nil => exact ⟨Γ, ⟨rfl, rfl, hI, .refl _⟩, rfl, fun _ _ => rfl, by simp⟩
  | cons p ps ih =>
    have step : ∃ Γ0, Quiet Γ (frzAt Γ.s p) Γ0 ∧ Γ0.φ = Γ.φ ∧ (∀ q, q ≠ p → Γ0.s q = Γ.s q) ∧ ((∀ xs hs, (Γ.s p).c ≠ .mix xs hs) → ∀ t xs, cellsAt Γ.s p t = some xs → Γ0.s p = ⟨t, .frz xs⟩) := by
      unfold frzAt
      split
      · rename_i t xs hp
        obtain ⟨g1, g2⟩ := hI.freeze hp
        refine ⟨{ Γ with s := upd Γ.s p ⟨t, .frz xs⟩, S := fun b o => Γ.S b o ∨ (b = (Γ.φ p).blk ∧ (Γ.φ p).base ≤ o ∧ o < (Γ.φ p).base + xs.length) }, ⟨rfl, rfl, g1, g2⟩, rfl, fun q hq => upd_ne _ _ hq, fun _ t' xs' h => ?_⟩
        rcases cellsAt_cases h with h' | h' | ⟨_, h'⟩ <;> rw [hp] at h' <;> cases h'
        simp
      · rename_i hn
        refine ⟨Γ, ⟨rfl, rfl, hI, .refl _⟩, rfl, fun _ _ => rfl, fun hpl t xs h => ?_⟩
        rcases cellsAt_cases h with h' | h' | ⟨hs, h'⟩
        · exact absurd h' (hn t xs)
        · exact h'
        · exact absurd (by rw [h']) (hpl xs hs)
    obtain ⟨Γ0, ⟨w0, s0, I0, E0⟩, f0, k0, z0⟩ := step
    obtain ⟨Γ1, ⟨w1, s1, I1, E1⟩, f1, k1, z1⟩ := ih I0
    refine ⟨Γ1, ⟨w1.trans w0, by rw [s1, s0]; rfl, I1, E0.trans E1⟩, f1.trans f0, fun q hq => ?_, fun q hq hpl t xs h => ?_⟩
    · rw [k1 q (fun h => hq (List.mem_cons_of_mem _ h)), k0 q (fun h => hq (h ▸ List.mem_cons_self ..))]
    · by_cases hqp : q = p
      · subst hqp
        have hz := z0 hpl t xs h
        by_cases hq' : q ∈ ps
        · exact z1 q hq' (fun _ _ => by rw [hz]; simp) t xs (by simp [cellsAt, hz])
        · rw [k1 q hq', hz]
      · have hq' : q ∈ ps := by
          rcases List.mem_cons.1 hq with h | h
          · exact absurd h hqp
          · exact h
        refine z1 q hq' (by rw [k0 q hqp]; exact hpl) t xs ?_
        unfold cellsAt at h ⊢
        rwa [k0 q hqp]

section
variable {cfg : Cfg} {f : FuncId}
theorem argsA_iff (s : St) : ∀ (vs : List AV) (k : Nat) (as1 : List Arg), argsA cfg f s k vs = some as1 → as1.length = vs.length ∧ ∀ (j : Nat) (v : AV), vs[j]? = some v → ∃ a, as1[j]? = some a ∧ argA cfg f s (k + j) v = some a
  | [], k, as1, h => by simp [argsA] at h; subst h; simp
  | v :: vs, k, as1, h => by
    simp only [argsA, Option.bind_eq_some_iff, Option.map_eq_some_iff] at h
    obtain ⟨a, ha, r, hr, rfl⟩ := h
    obtain ⟨h1, h2⟩ := argsA_iff s vs (k + 1) r hr
    refine ⟨by simp [h1], fun j u hu => ?_⟩
    cases j with
    | zero => simp at hu; subst hu; exact ⟨a, rfl, ha⟩
    | succ j =>
      obtain ⟨b, hb, hb'⟩ := h2 j u (by simpa using hu)
      exact ⟨b, by simpa using hb, by rwa [show k + (j + 1) = k + 1 + j by omega]⟩

def JJ (vs : List AV) (as1 : List Arg) (j : Nat) : Option Nat :=
  match vs[j]?, as1[j]? with
  | some v, some a => givesOf v a
  | _, _ => none
theorem JJ_some {vs : List AV} {as1 : List Arg} {j p : Nat} (h : JJ vs as1 j = some p) : ∃ v a, vs[j]? = some v ∧ as1[j]? = some a ∧ givesOf v a = some p := by
  unfold JJ at h
  split at h
  · exact ⟨_, _, by assumption, by assumption, h⟩
  · cases h
theorem JJ_mem : ∀ {vs : List AV} {as1 : List Arg} {j p : Nat}, JJ vs as1 j = some p → p ∈ givesL vs as1
  | [], _, j, p, h => by simp [JJ] at h
  | v :: vs, [], j, p, h => by
    unfold JJ at h; simp at h
  | v :: vs, a :: as1, j, p, h => by
    simp only [givesL]
    cases j with
    | zero =>
      have h' : givesOf v a = some p := by simpa [JJ] using h
      rw [h']; exact List.mem_cons_self ..
    | succ j =>
      have := JJ_mem (vs := vs) (as1 := as1) (j := j) (p := p) (by simpa [JJ] using h)
      split
      · exact List.mem_cons_of_mem _ this
      · exact this
theorem JJ_inj : ∀ {vs : List AV} {as1 : List Arg}, (givesL vs as1).Nodup → ∀ {j k p : Nat}, JJ vs as1 j = some p → JJ vs as1 k = some p → j = k
  | [], _, _, j, k, p, h, _ => by simp [JJ] at h
  | v :: vs, [], _, j, k, p, h, _ => by unfold JJ at h; simp at h
  | v :: vs, a :: as1, hn, j, k, p, h, h' => by
    simp only [givesL] at hn
    have tl : (givesL vs as1).Nodup := by
      split at hn
      · exact (List.nodup_cons.1 hn).2
      · exact hn
    cases j with
    | zero =>
      cases k with
      | zero => rfl
      | succ k =>
        have h1 : givesOf v a = some p := by simpa [JJ] using h
        have h2 := JJ_mem (vs := vs) (as1 := as1) (j := k) (p := p) (by simpa [JJ] using h')
        rw [h1] at hn
        exact absurd h2 (List.nodup_cons.1 hn).1
    | succ j =>
      cases k with
      | zero =>
        have h1 : givesOf v a = some p := by simpa [JJ] using h'
        have h2 := JJ_mem (vs := vs) (as1 := as1) (j := j) (p := p) (by simpa [JJ] using h)
        rw [h1] at hn
        exact absurd h2 (List.nodup_cons.1 hn).1
      | succ k =>
        have := JJ_inj tl (j := j) (k := k) (p := p) (by simpa [JJ] using h) (by simpa [JJ] using h')
        omega
theorem lends_mem : ∀ {vs : List AV} {as1 : List Arg} {j : Nat} {v : AV} {a : Arg} {p : Nat}, vs[j]? = some v → as1[j]? = some a → lendsOf v a = some p → p ∈ lendsL vs as1
  | [], _, j, v, a, p, h, _, _ => by simp at h
  | _ :: _, [], j, v, a, p, _, h, _ => by simp at h
  | v0 :: vs, a0 :: as1, j, v, a, p, h1, h2, h3 => by
    simp only [lendsL]
    cases j with
    | zero =>
      simp at h1 h2; subst h1; subst h2
      rw [h3]; exact List.mem_cons_self ..
    | succ j =>
      have := lends_mem (vs := vs) (as1 := as1) (j := j) (by simpa using h1) (by simpa using h2) h3
      split
      · exact List.mem_cons_of_mem _ this
      · exact this

theorem backA_iff : ∀ (vs : List AV) (as1 : List Arg) (os : List (List AV)) (s s2 : St), (givesL vs as1).Nodup → backA s vs as1 os = some s2 →
    (∀ p, p ∉ givesL vs as1 → s2 p = s p) ∧ (∀ p, (s2 p).t = (s p).t) ∧ ∀ (j p : Nat) (a : Arg), JJ vs as1 j = some p → as1[j]? = some a →
      (a.mut = false → (s2 p).c = .dead) ∧ (a.mut = true → ∃ o, os[j]? = some o ∧ (s2 p).c = .buf o)
  | [], [], [], s, s2, _, h => by
    simp [backA] at h; subst h
    exact ⟨fun _ _ => rfl, fun _ => rfl, fun j p a h => by simp [JJ] at h⟩
  | [], [], _ :: _, s, s2, _, h => by simp [backA] at h
  | [], _ :: _, _, s, s2, _, h => by simp [backA] at h
  | _ :: _, [], _, s, s2, _, h => by simp [backA] at h
  | _ :: _, _ :: _, [], s, s2, _, h => by simp [backA] at h
  | v :: vs, a :: as1, o :: os, s, s2, hn, h => by
    simp only [givesL] at hn ⊢
    simp only [backA] at h
    split at h
    · rename_i hg
      rw [hg] at hn ⊢
      obtain ⟨h1, h2, h3⟩ := backA_iff vs as1 os s s2 hn h
      refine ⟨h1, h2, fun j p b hj hb => ?_⟩
      cases j with
      | zero => have : givesOf v a = some p := by simpa [JJ] using hj
                rw [hg] at this; cases this
      | succ j => exact h3 j p b (by simpa [JJ] using hj) (by simpa using hb)
    · rename_i p hg
      rw [hg] at hn ⊢
      obtain ⟨hn1, hn2⟩ := List.nodup_cons.1 hn
      have key : ∀ (c : Cell), backA (upd s p ⟨(s p).t, c⟩) vs as1 os = some s2 → ((a.mut = false → c = .dead) ∧ (a.mut = true → c = .buf o)) →
          (∀ q, q ∉ p :: givesL vs as1 → s2 q = s q) ∧ (∀ q, (s2 q).t = (s q).t) ∧ ∀ (j q : Nat) (b : Arg), JJ (v :: vs) (a :: as1) j = some q → (a :: as1)[j]? = some b →
            (b.mut = false → (s2 q).c = .dead) ∧ (b.mut = true → ∃ o', (o :: os)[j]? = some o' ∧ (s2 q).c = .buf o') := by
        intro c hc hm
        obtain ⟨h1, h2, h3⟩ := backA_iff vs as1 os _ s2 hn2 hc
        refine ⟨fun q hq => ?_, fun q => ?_, fun j q b hj hb => ?_⟩
        · have hq1 : q ≠ p := fun e => hq (e ▸ List.mem_cons_self ..)
          rw [h1 q (fun h => hq (List.mem_cons_of_mem _ h)), upd_ne _ _ hq1]
        · rw [h2 q]
          by_cases hq1 : q = p
          · subst hq1; simp
          · rw [upd_ne _ _ hq1]
        · cases j with
          | zero =>
            have h4 : givesOf v a = some q := by simpa [JJ] using hj
            rw [hg] at h4; cases h4
            simp at hb; subst hb
            have h5 := h1 p hn1
            rw [h5]
            simp only [upd_same]
            exact ⟨hm.1, fun hmt => ⟨o, rfl, hm.2 hmt⟩⟩
          | succ j => exact h3 j q b (by simpa [JJ] using hj) (by simpa using hb)
      split at h
      · exact key .dead h ⟨fun _ => rfl, fun h => by simp [Arg.mut] at h⟩
      · rename_i hnt
        refine key (.buf o) h ⟨fun hm => ?_, fun _ => rfl⟩
        cases a with
        | tree x => cases v <;> simp [givesOf] at hg
        | ptr _ _ => simp [Arg.mut] at hm
        | own _ _ _ _ => simp [Arg.mut] at hm
        | tok xs len e => exact absurd rfl (hnt xs len e)
end
end Go.Ab
