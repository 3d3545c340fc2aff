/- Fields, places, slice expressions, lengths, conversions, loads: they yield what the abstract ones tell. No conditions. -/
import Derived.Test.YtaifnpbgamookaaDoorAbP
namespace Go.Ab
section
variable {P : Program} {Γ : G}

theorem loadA_ok (hI : Inv Γ) {t : Nat} {a r : AV} (h : loadA P t Γ.s a = some r) {va : Value} (ha : V Γ a va) : PureOk P (Instr.loadAt t va) Γ r := by
  unfold loadA at h
  split at h
  · rename_i xs
    obtain ⟨b, o, rfl, hc⟩ := (V_tree rfl).1 ha
    have := loadVar_ok (b := b) (o := o) h (.ofVC hc)
    obtain ⟨v, h1, h2⟩ := this
    exact ⟨v, by simpa [Instr.loadAt, Instr.sureAddr] using h1, h2⟩
  · rename_i p i off
    simp only [Option.bind_eq_some_iff] at h
    obtain ⟨xs, hx, h⟩ := h
    obtain ⟨_, hk⟩ := ha
    have := hk xs hx
    subst this
    obtain ⟨v, h1, h2⟩ := loadVar_ok h (hI.read hx)
    exact ⟨v, by simpa [Instr.loadAt, Instr.sureAddr] using h1, h2⟩
  · cases h

theorem run_fieldPlace {f : Field} {n : Nat} (h : esz P f.type = some n) (b o : Nat) (w : World) : (fieldPlace ⟨b, o, none⟩ f).run P w = .ok ⟨b, o + f.offset, none⟩ w := by
  have hn := (esz_info h).choose_spec.2.2
  have h0 : ¬ n = 0 := by omega
  simp [fieldPlace, run_esz h, h0, add_eq]

theorem live_iff {s : St} {p t : Nat} (h : live s p t = true) : ∃ xs, cellsAt s p t = some xs := Option.isSome_iff_exists.1 h

theorem fieldAddrA_ok {t i : Nat} {x r : AV} (h : fieldAddrA P t Γ.s x i = some r) {vx : Value} (hx : V Γ x vx) : PureOk P (Instr.fieldAt t vx i) Γ r := by
  unfold fieldAddrA at h
  split at h
  · rename_i ft o hf
    obtain ⟨fs, f, hu, hi, rfl, rfl⟩ := field_of hf
    split at h
    · rename_i n p k off he
      split at h
      · rename_i hl
        cases h
        obtain ⟨ht, hk⟩ := hx
        obtain ⟨xs, hxs⟩ := live_iff hl
        have := hk xs hxs
        subst this
        refine ⟨.pointer (some ⟨(Γ.φ p).blk, (Γ.φ p).base + off + f.offset, none⟩), ?_, ht, fun ys hy => by rw [Nat.add_assoc]⟩
        simp [Instr.fieldAt, run_underlying hu, hi, Instr.sureAddr, run_fieldPlace he]
      · cases h
    · rename_i n xs he
      cases h
      obtain ⟨b, o, rfl, hc⟩ := (V_tree rfl).1 hx
      refine ⟨.pointer (some ⟨b, o + f.offset, none⟩), ?_, (V_tree rfl).2 ⟨b, o + f.offset, rfl, hc.drop _⟩⟩
      simp [Instr.fieldAt, run_underlying hu, hi, Instr.sureAddr, run_fieldPlace he]
    · cases h
  · cases h

theorem fieldA_ok {t i : Nat} {x r : AV} (h : fieldA P t x i = some r) {vx : Value} (hx : V Γ x vx) : PureOk P (Instr.field t vx i) Γ r := by
  unfold fieldA at h
  split at h
  · rename_i ft o xs hf
    obtain ⟨fs, f, hu, hi, rfl, rfl⟩ := field_of hf
    obtain ⟨vs, rfl, hv⟩ := (V_tree rfl).1 hx
    obtain ⟨v, h1, h2⟩ := part_ok h hv
    exact ⟨v, by simp [Instr.field, run_underlying hu, hi, asAgg, h1], h2⟩
  · cases h

theorem own_value {p k off len e : Nat} {vx : Value} (hx : V Γ (.own p k off len e) vx) (hl : live Γ.s p k = true) :
    ∃ xs cap, cellsAt Γ.s p k = some xs ∧ vx = .slice (some ⟨(Γ.φ p).blk, (Γ.φ p).base + off, none⟩) len cap ∧ len ≤ cap ∧ off + cap * e ≤ xs.length + (Γ.φ p).spare ∧ k ≤ (Γ.s p).t := by
  obtain ⟨xs, hxs⟩ := live_iff hl
  obtain ⟨cap, h1, h2, h3⟩ := hx.2 xs hxs
  exact ⟨xs, cap, hxs, h1, h2, h3, hx.1⟩
theorem sl_value {xs : List AV} {len : Nat} {g : Grip} {vx : Value} (hx : V Γ (.sl xs len g) vx) :
    ∃ a cap, vx = .slice a len cap ∧ len ≤ cap ∧ (g = .tight ∨ g = .nil → cap = len) ∧ ((xs = [] ∧ len = 0 ∧ cap = 0) ∨ ∃ b o, a = some ⟨b, o, none⟩ ∧ VC Γ.S Γ.w xs b o) := by
  cases g with
  | tok p t =>
    obtain ⟨h0, _, _⟩ := hx
    obtain ⟨a, cap, h1, h2, _, _, h4⟩ := h0
    exact ⟨a, cap, h1, h2, by simp, h4⟩
  | tight =>
    obtain ⟨a, cap, h1, h2, h3, _, h4⟩ := (V_tree rfl).1 hx
    exact ⟨a, cap, h1, h2, fun _ => h3 rfl, h4⟩
  | loose =>
    obtain ⟨a, cap, h1, h2, h3, _, h4⟩ := (V_tree rfl).1 hx
    exact ⟨a, cap, h1, h2, fun h => by simp at h, h4⟩
  | nil =>
    obtain ⟨a, cap, h1, h2, _, ⟨_, h3⟩, h4⟩ := (V_tree rfl).1 hx
    refine ⟨a, cap, h1, h2, fun _ => ?_, h4⟩
    have := h3 rfl
    subst this
    rcases h4 with ⟨_, h5, h6⟩ | ⟨_, _, h5, _⟩
    · omega
    · cases h5

theorem indexAddrA_ok {t : Nat} {x ix r : AV} (h : indexAddrA P t Γ.s x ix = some r) {vx vi : Value} (hx : V Γ x vx) (hi : V Γ ix vi) : PureOk P (Instr.indexAt t vx vi) Γ r := by
  unfold indexAddrA at h
  split at h
  · rename_i e xs len g k i ht
    rw [V_int] at hi; subst hi
    simp only [Option.bind_eq_some_iff] at h
    obtain ⟨n, hn, h⟩ := h
    split at h
    · rename_i hb
      cases h
      obtain ⟨a, cap, rfl, hlc, _, hxs⟩ := sl_value hx
      rcases hxs with ⟨_, _, h0, _⟩ | ⟨b, o, rfl, hc⟩
      · omega
      · refine ⟨.pointer (some ⟨b, o + i.toNat * n, none⟩), ?_, (V_tree rfl).2 ⟨b, _, rfl, hc.drop _⟩⟩
        simp [Instr.indexAt, asIntOf, run_underlying (tk_sl ht), hb, run_esz hn, add_eq]
    · cases h
  · rename_i e p k off len e' ki i ht
    rw [V_int] at hi; subst hi
    simp only [Option.bind_eq_some_iff] at h
    obtain ⟨n, hn, h⟩ := h
    split at h
    · rename_i hb
      cases h
      obtain ⟨xs, cap, hxs, rfl, h1, h2, h3⟩ := own_value hx hb.1
      refine ⟨.pointer (some ⟨(Γ.φ p).blk, (Γ.φ p).base + off + i.toNat * n, none⟩), ?_, h3, fun _ _ => by rw [Nat.add_assoc]⟩
      simp [Instr.indexAt, asIntOf, run_underlying (tk_sl ht), hb.2.1, hb.2.2, run_esz hn, add_eq]
    · cases h
  · rename_i m e p k off ki i ht
    rw [V_int] at hi; subst hi
    simp only [Option.bind_eq_some_iff] at h
    obtain ⟨n, hn, h⟩ := h
    split at h
    · rename_i hb
      cases h
      obtain ⟨xs, hxs⟩ := live_iff hb.1
      have := hx.2 xs hxs
      subst this
      refine ⟨.pointer (some ⟨(Γ.φ p).blk, (Γ.φ p).base + off + i.toNat * n, none⟩), ?_, hx.1, fun _ _ => by rw [Nat.add_assoc]⟩
      simp [Instr.indexAt, asIntOf, run_underlying (tk_arr ht), hb.2.1, hb.2.2, run_esz hn, add_eq, Instr.sureAddr]
    · cases h
  · rename_i m e xs ki i ht
    rw [V_int] at hi; subst hi
    simp only [Option.bind_eq_some_iff] at h
    obtain ⟨n, hn, h⟩ := h
    split at h
    · rename_i hb
      cases h
      obtain ⟨b, o, rfl, hc⟩ := (V_tree rfl).1 hx
      refine ⟨.pointer (some ⟨b, o + i.toNat * n, none⟩), ?_, (V_tree rfl).2 ⟨b, _, rfl, hc.drop _⟩⟩
      simp [Instr.indexAt, asIntOf, run_underlying (tk_arr ht), hb, run_esz hn, add_eq, Instr.sureAddr]
    · cases h
  · cases h

theorem size_mk (l : List UInt8) : (⟨l.toArray⟩ : ByteArray).size = l.length := by simp [ByteArray.size]
theorem get_mk (l : List UInt8) (i : Nat) : (⟨l.toArray⟩ : ByteArray)[i]? = l[i]? := by
  by_cases h : i < l.length
  · rw [getElem?_pos _ _ (by rw [size_mk]; exact h), List.getElem?_eq_getElem h]
    rfl
  · rw [getElem?_neg _ _ (by rw [size_mk]; exact h), List.getElem?_eq_none (by omega)]

theorem indexA_ok {t : Nat} {x ix r : AV} (h : indexA P t x ix = some r) {vx vi : Value} (hx : V Γ x vx) (hi : V Γ ix vi) : PureOk P (Instr.index t vx vi) Γ r := by
  unfold indexA at h
  split at h
  · rename_i m e xs k i ht
    rw [V_int] at hi; subst hi
    simp only [Option.bind_eq_some_iff] at h
    obtain ⟨n, hn, h⟩ := h
    split at h
    · rename_i hb
      obtain ⟨vs, rfl, hv⟩ := (V_tree rfl).1 hx
      obtain ⟨v, h1, h2⟩ := part_ok h hv
      exact ⟨v, by simp [Instr.index, asIntOf, run_underlying (tk_arr ht), hb, run_esz hn, h1], h2⟩
    · cases h
  · rename_i b k i ht
    rw [V_int] at hi; subst hi
    rw [V_str] at hx; subst hx
    split at h
    · rename_i hb
      cases h
      refine .mk ?_ (by simp [V, V0, vOf])
      have h1 : (⟨b.toArray⟩ : ByteArray)[i.toNat]? = some (b.getD i.toNat 0) := by
        rw [get_mk, List.getElem?_eq_getElem (by omega)]
        simp [List.getD, List.getElem?_eq_getElem (show i.toNat < b.length by omega)]
      simp [Instr.index, asIntOf, run_underlying (tk_str ht), hb.1, h1, vOf]
    · cases h
  · cases h

theorem lenA_ok {t : Nat} {x r : AV} (h : lenA P t Γ.s x = some r) {vx : Value} (hx : V Γ x vx) (ty : TypeId) (at_ : Array TypeId) (hat : at_[0]? = some t) : PureOk P (Builtin.len_ at_ ty #[vx]) Γ r := by
  unfold lenA at h
  split at h
  · rename_i b ht
    rw [V_str] at hx; subst hx; cases h
    exact .mk (by simp [Builtin.len_, hat, run_underlying (tk_str ht), goInt, size_mk, vOf]) (by simp [V, V0, vOf])
  · rename_i e xs len g ht
    obtain ⟨a, cap, rfl, _⟩ := sl_value hx
    cases h
    exact .mk (by simp [Builtin.len_, hat, run_underlying (tk_sl ht), goInt, vOf]) (by simp [V, V0, vOf])
  · rename_i e p k off len e' ht
    split at h
    · rename_i hl
      cases h
      obtain ⟨xs, cap, hxs, rfl, _⟩ := own_value hx hl
      exact .mk (by simp [Builtin.len_, hat, run_underlying (tk_sl ht), goInt, vOf]) (by simp [V, V0, vOf])
    · cases h
  · rename_i n e ht
    cases h
    exact .mk (by simp [Builtin.len_, hat, run_underlying (tk_arr ht), goInt, vOf]) (by simp [V, V0, vOf])
  · cases h
end
end Go.Ab
