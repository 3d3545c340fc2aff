/- append goes on to the store that the abstract one tells. No conditions. -/
import Derived.Test.YtaifnpbgamookaaDoorAbW
namespace Go.Ab
section
variable {P : Program} {Γ : G}

/-- What append is handed to put behind: a slice or a text; or a count of zero elements. -/
inductive Src (P : Program) (Γ : G) (el e : Nat) (at1 : Option TypeId) (v : Value) (n : Nat) (us : List Value) : Prop
  | some (t : TypeId) (d : TypeDesc) (h1 : at1 = some t) (h2 : P.underlying t = some d) (h3 : (∃ x, d = .slice x) ∨ d = .string) (h4 : (Builtin.lenOf v).run P Γ.w = .ok n Γ.w) (h5 : Firsts P Γ e n us v) (h6 : us.length = n * e)
  | zeros (t : TypeId) (k : IntKind) (m : Int) (zv : Value) (h1 : at1 = some t) (h2 : P.underlying t = some (.int k)) (h3 : v = .int .i64 m) (h4 : 0 ≤ m ∧ m < 2147483648) (h5 : n = m.toNat) (h6 : ∀ w, (zeroValue el).run P w = .ok zv w)
      (h7 : zv.cells.size = e) (h8 : us = (List.replicate n zv.cells.toList).flatten) (h9 : byOf P el ≤ 65536)

theorem zeroOf_all {t : Nat} {z : List AV} (h : zeroOf P t = some z) : ∃ v : Value, (∀ w, (zeroValue t).run P w = .ok v w) ∧ z = v.cells.toList.map ofV1 ∧ ∀ S w, VL S w z v.cells.toList := by
  unfold zeroOf at h
  split at h
  · rename_i v hv
    split at h
    · rename_i hc
      cases h
      cases hi : P.info? t with
      | none => rw [hi] at hv; cases hv
      | some i =>
        rw [hi] at hv
        have hv' : i.zero = some v := hv
        exact ⟨v, fun w => by simp [zeroValue, typeInfo, hi, hv'], rfl, fun S w => VL_ofV1 _ hc⟩
    · cases h
  · cases h

theorem moreA_ok {el e : Nat} {ty : Option TypeId} {y : AV} {ys : List AV} {n : Nat} (hI : Inv Γ) (h : moreA P el e ty Γ.s y = some (ys, n)) {vy : Value} (hy : V Γ y vy) :
    ∃ us, VL Γ.S Γ.w ys us ∧ us.length = n * e ∧ Src P Γ el e ty vy n us := by
  by_cases hk : ∃ kk, ty.map (tkOf P) = some (.int kk)
  · obtain ⟨kk, hk⟩ := hk
    unfold moreA at h
    rw [hk] at h
    have hy' : ∃ m, y = .int .i64 m := by
      split at h
      · rename_i m _; exact ⟨m, rfl⟩
      · rename_i e; cases e
      · rename_i e; cases e
      · rename_i e; cases e
      · cases h
    obtain ⟨m, rfl⟩ := hy'
    dsimp only at h
    simp only [Option.bind_eq_some_iff] at h
    obtain ⟨z, hz, h⟩ := h
    split at h
    · rename_i hb
      cases h
      obtain ⟨zv, h1, rfl, h2⟩ := zeroOf_all hz
      rw [V_int] at hy
      cases ty with
      | none => cases hk
      | some t =>
      have hsz : zv.cells.size = e := by simpa using hb.2.2.2
      refine ⟨_, VL_rep (h2 Γ.S Γ.w) _, by simp [hsz], .zeros t kk m zv rfl (tk_int (by simpa using hk)) hy ⟨hb.1, hb.2.1⟩ rfl h1 hsz rfl hb.2.2.1⟩
    · cases h
  · have hk' : ∀ kk, ty.map (tkOf P) ≠ some (.int kk) := fun kk e => hk ⟨kk, e⟩
    obtain ⟨⟨t, d, h1, h2, h3⟩, h4, h5, us, h6, h7⟩ := moreA_src hI hk' h hy
    have hul : us.length = n * e := by rw [← ((VL_iff _ _).1 h6).1, h4]
    exact ⟨us, h6, hul, .some t d h1 h2 h3 h5 h7 hul⟩

theorem zeroCells_eq (zero : Array Value) (n : Nat) : Builtin.zeroCells zero n = ((List.replicate n zero.toList).flatten).toArray := by
  unfold Builtin.zeroCells; exact range_rep zero n

variable {at_ : Array TypeId} {tt el e n len cap : Nat} {i : TypeInfo} {us : List Value} {vy : Value} {a : Option Addr}

/-- In place. -/
theorem run_append_in (h0 : at_[0]? = some tt) (hu : P.underlying tt = some (.slice el)) (he : esz P el = some e) (hi : P.info? el = some i) (hs : Src P Γ el e at_[1]? vy n us)
    (hc : len + n ≤ cap) (ty : TypeId) {w' : World}
    (hst : match (generalizing := false) a with | some ad => (storeCells (ad.add (len * e)) us 0).run P Γ.w = .ok () w' | none => w' = Γ.w) :
    (Builtin.append_ at_ ty #[.slice a len cap, vy]).run P Γ.w = .ok (.slice a (len + n) cap) w' := by
  cases hs with
  | some t d h1 h2 h3 h4 h5 h6 =>
    have hf := h5 n (Nat.le_refl _) Γ.w (fun _ _ => rfl)
    rw [List.take_of_length_le (by omega)] at hf
    rcases h3 with ⟨x, rfl⟩ | rfl
    all_goals
      simp only [Builtin.append_, h0, h1, List.getElem?_toArray, List.getElem?_cons_zero, List.getElem?_cons_succ, Sem.run_bind, run_underlying hu, run_underlying h2, Result.andThen_ok, run_esz he, Sem.run_pure, Bool.false_eq_true, if_false, h4, hc, if_true, Bool.not_false, hf]
      cases a with
      | none => have hst' : w' = Γ.w := hst; rw [hst']; rfl
      | some ad => have hst' : (storeCells (ad.add (len * e)) us 0).run P Γ.w = .ok () w' := hst; simp only [Sem.run_bind, hst', Result.andThen_ok, Sem.run_pure]
  | zeros t k m zv h1 h2 h3 h4 h5 h6 h7 h8 h9 =>
    subst h3
    have hb : i.bytes ≤ 65536 := by simpa [byOf, hi] using h9
    have hw : IntKind.i64.wrap m = m := by simp [IntKind.wrap, IntKind.bits, IntKind.signed]; omega
    have g1 : ¬ (m < 0) := by omega
    have g2 : ¬ (281474976710656 < m * (i.bytes : Int)) := by
      have : m * (i.bytes : Int) ≤ m * 65536 := Int.mul_le_mul_of_nonneg_left (by omega) (by omega)
      omega
    have hl : us.length = n * e := by rw [h8]; simp [h7]
    have hz : ∀ w, (if n * e = 0 then (pure #[] : Sem (Array Value)) else do pure (Builtin.zeroCells (← zeroValue el).cells n)).run P w = .ok us.toArray w := fun w => by
      split
      · rename_i hn0
        have : us = [] := List.length_eq_zero_iff.1 (by omega)
        subst this; rfl
      · simp only [Sem.run_bind, h6, Result.andThen_ok, Sem.run_pure, zeroCells_eq, h8]
    have hz' := hz Γ.w
    simp only [Sem.run_ite, Sem.run_bind, Sem.run_pure] at hz'
    simp [Builtin.append_, h0, h1, run_underlying hu, run_underlying h2, run_esz he, asInt, asIntOf, hw, g1, g2, typeInfo, hi, ← h5, hc]
    by_cases hn0 : n * e = 0
    · have hus : us = [] := List.length_eq_zero_iff.1 (by omega)
      rw [hus] at hst
      rw [if_pos hn0]
      cases a with
      | none => have hst' : w' = Γ.w := hst; rw [hst']; rfl
      | some ad => have hst' : (storeCells (ad.add (len * e)) [] 0).run P Γ.w = .ok () w' := hst; simp only [Sem.run_map, hst', Result.andThen_ok]
    · rw [if_neg hn0, h6]
      simp only [Result.andThen_ok, zeroCells_eq, ← h8]
      cases a with
      | none => have hst' : w' = Γ.w := hst; rw [hst']; rfl
      | some ad => have hst' : (storeCells (ad.add (len * e)) us 0).run P Γ.w = .ok () w' := hst; simp only [Sem.run_map, hst', Result.andThen_ok]

/-- Into a new row. -/
theorem run_append_new (h0 : at_[0]? = some tt) (hu : P.underlying tt = some (.slice el)) (he : esz P el = some e) (hi : P.info? el = some i) {zv : Value} (hzv : ∀ w, (zeroValue el).run P w = .ok zv w) (hs : Src P Γ el e at_[1]? vy n us)
    {os : List Value} (_hol : os.length = len * e) (ho : (Builtin.firstCells e len (.slice a len cap)).run P Γ.w.drew = .ok os.toArray Γ.w.drew)
    (hc : cap < len + n) (hb : (len + n) * i.bytes ≤ 140737488355328) (h63 : len + n ≤ 9223372036854775807) (ty : TypeId) :
    ∃ newCap rest, len + n ≤ newCap ∧ (Builtin.append_ at_ ty #[.slice a len cap, vy]).run P Γ.w = .ok (.slice (some ⟨Γ.w.heap.size, 0, none⟩) (len + n) newCap) (Γ.w.drew.alloc (.cells (os ++ us ++ rest).toArray el)) ∧
      rest = (List.replicate (newCap - (len + n)) zv.cells.toList).flatten := by
  let newCap := (Question.appendCap (len + n) cap el).cut (Γ.w.tape Γ.w.drawn (.appendCap (len + n) cap el))
  have hnc : len + n ≤ newCap := by simp only [newCap, Question.cut]; omega
  have hfit := growslice_fits (need := len + n) (old := cap) (bytes := i.bytes) hc hb
  have h48 : ¬ (281474976710656 < Builtin.nextslicecap (len + n) cap * i.bytes) := by omega
  have hnot : ¬ (len + n ≤ cap) := by omega
  have hmax : ¬ (IntKind.max .i64 < ((len + n : Nat) : Int)) := by
    have e3 : IntKind.max .i64 = 9223372036854775807 := by decide
    rw [e3]; omega
  have hmax' : ¬ ((9223372036854775807 : Int) < (len : Int) + (n : Int)) := by omega
  refine ⟨newCap, _, hnc, ?_, rfl⟩
  cases hs with
  | some t d h1 h2 h3 h4 h5 h6 =>
    have hf := h5 n (Nat.le_refl _) Γ.w.drew (fun _ _ => rfl)
    rw [List.take_of_length_le (by omega)] at hf
    rcases h3 with ⟨x, rfl⟩ | rfl
    all_goals
      simp [Builtin.append_, h0, h1, run_underlying hu, run_underlying h2, run_esz he, h4, hnot, typeInfo, hi, hmax', h48, Question.forced, ho, hf, hzv, newRow, newCap, zeroCells_eq]
  | zeros t k m zv' h1 h2 h3 h4 h5 h6 h7 h8 h9 =>
    subst h3
    have hb' : i.bytes ≤ 65536 := by simpa [byOf, hi] using h9
    have hw : IntKind.i64.wrap m = m := by simp [IntKind.wrap, IntKind.bits, IntKind.signed]; omega
    have g1 : ¬ (m < 0) := by omega
    have g2 : ¬ (281474976710656 < m * (i.bytes : Int)) := by
      have : m * (i.bytes : Int) ≤ m * 65536 := Int.mul_le_mul_of_nonneg_left (by omega) (by omega)
      omega
    have hl : us.length = n * e := by rw [h8]; simp [h7]
    have hz : ∀ w, (if n * e = 0 then (pure #[] : Sem (Array Value)) else do pure (Builtin.zeroCells (← zeroValue el).cells n)).run P w = .ok us.toArray w := fun w => by
      split
      · rename_i hn0
        have : us = [] := List.length_eq_zero_iff.1 (by omega)
        subst this; rfl
      · simp only [Sem.run_bind, h6, Result.andThen_ok, Sem.run_pure, zeroCells_eq, h8]
    have hz' := hz Γ.w.drew
    simp only [Sem.run_ite, Sem.run_bind, Sem.run_pure] at hz'
    have hmax2 : ¬ ((9223372036854775807 : Int) < (len : Int) + max m 0) := by omega
    simp [Builtin.append_, h0, h1, run_underlying hu, run_underlying h2, run_esz he, asInt, asIntOf, hw, g1, g2, typeInfo, hi, ← h5, hnot, hmax2, h48, Question.forced, ho, hzv, newRow]
    by_cases hn0 : n * e = 0
    · have hus : us = [] := List.length_eq_zero_iff.1 (by omega)
      rw [if_pos hn0, hus]
      simp [newCap, zeroCells_eq]
    · rw [if_neg hn0]
      have h6' := h6 Γ.w.drew
      rw [hzv] at h6'
      cases h6'
      simp [newCap, zeroCells_eq, h8]
end
end Go.Ab
