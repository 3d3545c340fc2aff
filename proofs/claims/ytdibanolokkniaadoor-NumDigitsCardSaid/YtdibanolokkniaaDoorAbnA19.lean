/- The statement NumInts, abstractly. Conditions: two ints. -/
import Derived.Test.YtdibanolokkniaaDoorAbnA18
import Derived.Test.YtdibanolokkniaaDoorAbnA11
import Derived.Test.YtdibanolokkniaaDoorAbnAC
import Derived.Test.YtdibanolokkniaaDoorAbMM
namespace Go.Ab
open Go.Proofs
set_option maxRecDepth 100000
set_option linter.unusedSimpArgs false

theorem tk33 : tkOf Tryd.prog 33 = .arr 8 3 := by kernel_rfl
theorem esz3' : esz Tryd.prog 3 = some 1 := by kernel_rfl
theorem sh3' : shOf Tryd.prog 3 = some (false, 1) := by kernel_rfl
theorem esz33 : esz Tryd.prog 33 = some 8 := by kernel_rfl
theorem zero33 : zeroOf Tryd.prog 33 = some [.int .i64 0, .int .i64 0, .int .i64 0, .int .i64 0, .int .i64 0, .int .i64 0, .int .i64 0, .int .i64 0] := by kernel_rfl
theorem bd_33 (a b c d e f g h : Int) : buildA Tryd.prog 33 [(0, .int .i64 a), (1, .int .i64 b), (2, .int .i64 c), (3, .int .i64 d), (4, .int .i64 e), (5, .int .i64 f), (6, .int .i64 g), (7, .int .i64 h)] = some (.agg [.int .i64 a, .int .i64 b, .int .i64 c, .int .i64 d, .int .i64 e, .int .i64 f, .int .i64 g, .int .i64 h]) := by
  simp only [buildA, zero33, tk33, esz3', Option.bind_some]; rfl
def stB (e : Ent) (p k off : Nat) (s : St) (v : AV) : Option St := match e with | ⟨t', .buf xs⟩ => if t' = k then (if off < xs.length then some (upd s p ⟨t', .buf (xs.set off v)⟩) else none) else none | _ => none
theorem st_3i (s : St) (p k off : Nat) (z : Int) : storeA Tryd.prog 3 s (.ptr p k off) (.int .i64 z) = stB (s p) p k off s (.int .i64 z) := by
  simp only [storeA, settle, Option.bind_some, stB]
  cases h : s p with
  | mk t c => cases c <;> simp [esz3', cellOk]
theorem stB_buf (t k p off : Nat) (s : St) (v : AV) (xs : List AV) : stB ⟨t, .buf xs⟩ p k off s v = if t = k then (if off < xs.length then some (upd s p ⟨t, .buf (xs.set off v)⟩) else none) else none := rfl
def stW (e : Ent) (p k : Nat) (s : St) (ys : List AV) : Option St := match e with | ⟨t', .buf xs⟩ => if t' = k then (if ys.length ≤ xs.length then some (upd s p ⟨t', .buf (splice xs 0 ys)⟩) else none) else none | _ => none
theorem st_33 (s : St) (p k : Nat) (a b c d e f g h : AV) : storeA Tryd.prog 33 s (.ptr p k 0) (.agg [a, b, c, d, e, f, g, h]) = stW (s p) p k s [a, b, c, d, e, f, g, h] := by
  simp only [storeA, settle, Option.bind_some, stW]
  cases h : s p with
  | mk t c => cases c <;> simp [esz33]
theorem stW_buf (t k p : Nat) (s : St) (a b c d e f g h a' b' c' d' e' f' g' h' : AV) : stW ⟨t, .buf [a', b', c', d', e', f', g', h']⟩ p k s [a, b, c, d, e, f, g, h] = if t = k then some (upd s p ⟨t, .buf [a, b, c, d, e, f, g, h]⟩) else none := by
  simp [stW, splice]
def iaE (e : Ent) (p k : Nat) (i : Int) : Option AV := if (cellsE e k).isSome = true ∧ 0 ≤ i ∧ i < 8 then some (.ptr p k i.toNat) else none
theorem ia_33 (s : St) (p k : Nat) (i : Int) : indexAddrA Tryd.prog 33 s (.ptr p k 0) (.int .i64 i) = iaE (s p) p k i := by
  simp only [indexAddrA, tk33, esz3', Option.bind_some, live, cellsAt_E, iaE, Nat.zero_add, Nat.mul_one]; rfl
theorem iaE_buf (t p k : Nat) (i : Int) (xs : List AV) : iaE ⟨t, .buf xs⟩ p k i = if t = k then (if 0 ≤ i ∧ i < 8 then some (.ptr p k i.toNat) else none) else none := by
  rw [iaE, cellsE_buf]
  by_cases e : t = k <;> simp [e]
theorem ldE_3i (t k off : Nat) (xs : List AV) : ldE Tryd.prog 3 ⟨t, .buf xs⟩ k off = if t = k then xs[off]? else none := by
  rw [ldE, cellsE_buf]
  by_cases e : t = k
  · simp [e, partA, sh3']
  · simp [e]
theorem placeB_eq (n d : Nat) (v m : Int) (hm : 0 < m) (hm' : m ≤ 4294967296) : evalFn Tryd.prog cfg0 n (d+1) 17 [.tree (.int .i64 v), .tree (.int .i64 m)] = some (.tree (.int .i64 (placeN v m)), [[], []]) := by
  rw [evalFn_go _ Tryd.func17 (by unfold Tryd.f17; rfl) (by unfold Tryd.f17; decide) (Nat.le_of_ble_eq_true (by unfold Tryd.f17; rfl)) (by kernel_rfl)]
  have hr := place_range v m hm
  have e1 := i_remZ Tryd.prog 3 v m (by omega)
  have h1 := Int.tmod_lt_of_pos v hm
  unfold placeN at *
  by_cases h : v.tmod m < 0
  · rw [if_pos h] at hr ⊢
    have e2 := i_add Tryd.prog 3 (v.tmod m) m (by omega) (by omega)
    simp only [zaa, zab, zac, zad, zae, zaf, zag, zah, zai, zaj, zak, zal, zam, zan, zao, zap, zaq, zar, zas, zat, zau, zav, zaw, zax, zay, zaz, zba, zbb, zbc, zbd, zbe, zbf, zbg, zbh, zbi, zbj, Nat.reduceBEq, Bool.or_self, Bool.or_false, Bool.or_true, Bool.and_true, Bool.and_false, Bool.true_and, Bool.false_and, Option.isNone_none, Option.isNone_some, Option.isSome_some, Option.isSome_none, zbk, zbl, zbm, zbn, zbo, zbp, zbq, zbr, zbs, zbt, zbu, zbv, zbw, zbx, zby, zbz, zca, zcb, zcc, zcd, zce, zcf, zcg, zch, zci, zcj, zck, zcl, zcm, zcn, zco, zcp, zcq, zcr, zcs, zct, zcu, zcv, zcw, zcx, zcy, zcz, zda, zdb, zdc, zdd, zde, zdf, Option.getD_some, Option.getD_none, zet, zeu, zev, zew, zex, zey, zez, zfa, Option.map_some, Option.map_none, Option.bind_some, List.map_cons, List.map_nil, List.cons_append, List.nil_append, ↓reduceIte, Nat.reduceEqDiff, Nat.reduceAdd, decide_true, decide_false, Bool.true_eq_false, Bool.false_eq_true, env0, List.getElem?_cons_zero, List.getElem?_cons_succ, zdi, e1, h, e2]
    exact finish_tree _ _ _ _ _ _ (.int .i64 (v.tmod m + m)) _ _ (by simp only [zfa, ↓reduceIte]) rfl rfl
  · rw [if_neg h] at hr ⊢
    simp only [zaa, zab, zac, zad, zae, zaf, zag, zah, zai, zaj, zak, zal, zam, zan, zao, zap, zaq, zar, zas, zat, zau, zav, zaw, zax, zay, zaz, zba, zbb, zbc, zbd, zbe, zbf, zbg, zbh, zbi, zbj, Nat.reduceBEq, Bool.or_self, Bool.or_false, Bool.or_true, Bool.and_true, Bool.and_false, Bool.true_and, Bool.false_and, Option.isNone_none, Option.isNone_some, Option.isSome_some, Option.isSome_none, zbk, zbl, zbm, zbn, zbo, zbp, zbq, zbr, zbs, zbt, zbu, zbv, zbw, zbx, zby, zbz, zca, zcb, zcc, zcd, zce, zcf, zcg, zch, zci, zcj, zck, zcl, zcm, zcn, zco, zcp, zcq, zcr, zcs, zct, zcu, zcv, zcw, zcx, zcy, zcz, zda, zdb, zdc, zdd, zde, zdf, Option.getD_some, Option.getD_none, zet, zeu, zev, zew, zex, zey, zez, zfa, Option.map_some, Option.map_none, Option.bind_some, List.map_cons, List.map_nil, List.cons_append, List.nil_append, ↓reduceIte, Nat.reduceEqDiff, Nat.reduceAdd, decide_true, decide_false, Bool.true_eq_false, Bool.false_eq_true, env0, List.getElem?_cons_zero, List.getElem?_cons_succ, zdi, e1, h]
    exact finish_tree _ _ _ _ _ _ (.int .i64 (v.tmod m)) _ _ (by simp only [zfa, ↓reduceIte]) rfl rfl
theorem cPlaceB (n d : Nat) (v m : Int) (hm : 0 < m) (hm' : m ≤ 4294967296) (D : Nat) (s : St) : callA cfg0 (evalFn Tryd.prog cfg0 n (d+1)) D s 17 [.int .i64 v, .int .i64 m] = some (.int .i64 (placeN v m), s) :=
  callA_int2 _ _ _ _ _ _ _ _ _ (placeB_eq n d v m hm hm')

section
variable (a b : Int)
/-- What comes of an op. -/
def resI (k : Nat) : Int := match k with
  | 1 => a + b | 2 => a - b | 3 => a * b | 4 => a.tdiv b | 5 => a.tmod b | k => logZ k a b
def wantI (k : Nat) : List AV := [.int .i64 (a + b), .int .i64 (a - b), .int .i64 (a * b), .int .i64 (if 4 < k ∧ b ≠ 0 then a.tdiv b else 0), .int .i64 (if 5 < k ∧ b ≠ 0 then a.tmod b else 0), .int .i64 (logZ 6 a b), .int .i64 (logZ 7 a b), .int .i64 (logZ 8 a b)]
theorem want_len (k : Nat) : (wantI a b k).length = 8 := rfl
theorem want_next (k : Nat) (h : ¬ (k = 4 ∨ k = 5) ∨ b = 0) : wantI a b (k + 1) = wantI a b k := by
  unfold wantI
  have e4 : (4 < k + 1 ∧ b ≠ 0) ↔ (4 < k ∧ b ≠ 0) := by omega
  have e5 : (5 < k + 1 ∧ b ≠ 0) ↔ (5 < k ∧ b ≠ 0) := by omega
  simp only [e4, e5]
theorem want_4 (h : b ≠ 0) : (wantI a b 4).set 3 (.int .i64 (a.tdiv b)) = wantI a b 5 := by simp [wantI, h]
theorem want_5 (h : b ≠ 0) : (wantI a b 5).set 4 (.int .i64 (a.tmod b)) = wantI a b 6 := by simp [wantI, h]
theorem want_at (k : Nat) (h : 1 ≤ k) (h8 : k ≤ 8) (hb : ¬ (k = 4 ∨ k = 5)) : (wantI a b k)[k - 1]? = some (.int .i64 (resI a b k)) := by
  match k, h, h8, hb with
  | 1, _, _, _ => rfl
  | 2, _, _, _ => rfl
  | 3, _, _, _ => rfl
  | 4, _, _, hb => exact absurd (.inl rfl) hb
  | 5, _, _, hb => exact absurd (.inr rfl) hb
  | 6, _, _, _ => rfl
  | 7, _, _, _ => rfl
  | 8, _, _, _ => rfl
variable (ha : a.natAbs ≤ 2147483648) (hb : b.natAbs ≤ 2147483648)
include ha hb
theorem mul_fit : -4611686018427387904 ≤ a * b ∧ a * b ≤ 4611686018427387904 := by
  have h : (a * b).natAbs ≤ 4611686018427387904 := by
    rw [Int.natAbs_mul]
    exact Nat.mul_le_mul ha hb
  omega
theorem log_fitI (k : Nat) : (logZ k a b).natAbs ≤ 4294967296 := by
  rw [logZ_n 32 k (by decide) (by omega) (by omega)]
  exact logW_fit 32 k (by omega) (by omega)
theorem res_fit (k : Nat) : -9223372036854775808 ≤ resI a b k ∧ resI a b k < 9223372036854775808 := by
  have h1 := mul_fit a b ha hb
  have h2 := log_fitI a b ha hb k
  have h4 : (a.tdiv b).natAbs ≤ a.natAbs := by rw [← quo_sgn, sgn_abs]; exact Nat.div_le_self _ _
  have h5 : (a.tmod b).natAbs ≤ a.natAbs := by rw [← rem_sgn, sgn_abs]; exact Nat.mod_le _ _
  unfold resI
  split <;> omega
theorem op_res (k : Nat) (h1 : 1 ≤ k) (h8 : k ≤ 8) (h0 : ¬ (k = 4 ∨ k = 5) ∨ b ≠ 0) (D : Nat) (s : St) : callA cfg0 (evalFn Tryd.prog cfg0 100000 12) D s 14 [.int .i64 (k : Int), encZ a, encZ b] = some (.tup [encZ (resI a b k), .bool true], s) := by
  have big := B12_big
  have na := isN_Z a (by omega)
  have nb := isN_Z b (by omega)
  have hf := res_fit a b ha hb k
  have hfit : (resI a b k).natAbs < B ^ 12 := by omega
  rw [← madeV_fit hfit]
  refine callA_trees rfl ?_
  match k, h1, h8, h0 with
  | 1, _, _, _ => exact op1_eq 100000 6 (Nat.le_refl _) na nb
  | 2, _, _, _ => exact op2_eq 100000 6 (Nat.le_refl _) na nb
  | 3, _, _, _ => exact op3_eq 100000 6 (Nat.le_refl _) na nb
  | 4, _, _, h0 =>
    have h0' : b ≠ 0 := h0.resolve_left fun h => h (.inl rfl)
    have := op4_eq 100000 6 (Nat.le_refl _) na nb
    rw [if_neg h0'] at this; exact this
  | 5, _, _, h0 =>
    have h0' : b ≠ 0 := h0.resolve_left fun h => h (.inr rfl)
    have := op5_eq 100000 6 (Nat.le_refl _) na nb
    rw [if_neg h0'] at this; exact this
  | 6, _, _, _ => exact op6_eq 100000 5 (Nat.le_refl _) na nb
  | 7, _, _, _ => exact op7_eq 100000 5 (Nat.le_refl _) na nb
  | 8, _, _, _ => exact op8_eq 100000 5 (Nat.le_refl _) na nb
theorem op_none (k : Nat) (hk : k = 4 ∨ k = 5) (h0 : b = 0) (D : Nat) (s : St) : callA cfg0 (evalFn Tryd.prog cfg0 100000 12) D s 14 [.int .i64 (k : Int), encZ a, encZ b] = some (.tup [encZ 0, .bool false], s) := by
  have big := B12_big
  have na := isN_Z a (by omega)
  have nb := isN_Z b (by omega)
  refine callA_trees rfl ?_
  rcases hk with rfl | rfl
  · have := op4_eq 100000 6 (Nat.le_refl _) na nb
    rw [if_pos h0] at this; exact this
  · have := op5_eq 100000 6 (Nat.le_refl _) na nb
    rw [if_pos h0] at this; exact this
omit ha hb in
theorem int_res (z : Int) (h : -9223372036854775808 ≤ z) (h' : z < 9223372036854775808) (D : Nat) (s : St) : callA cfg0 (evalFn Tryd.prog cfg0 100000 12) D s 18 [encZ z] = some (.tup [.int .i64 z, .bool true], s) := by
  have big := B12_big
  have := cInt 100000 9 (Nat.le_refl _) (isN_Z z (by omega)) D s
  have hi : isI64 z = true := by unfold isI64; rw [decide_eq_true h, decide_eq_true h']; rfl
  rw [intZ, if_pos hi] at this
  exact this
theorem and_I (P : Program) (t : TypeId) : binA P .and t (.int .i64 a) (.int .i64 b) = some (.int .i64 (logZ 6 a b)) := by
  have e := and64 (a := a) (b := b) (by omega) (by omega)
  rw [← logZ_n 63 6 (by decide) (by omega) (by omega)] at e
  rw [← e]; rfl
theorem or_I (P : Program) (t : TypeId) : binA P .or t (.int .i64 a) (.int .i64 b) = some (.int .i64 (logZ 7 a b)) := by
  have e := or64 (a := a) (b := b) (by omega) (by omega)
  rw [← logZ_n 63 7 (by decide) (by omega) (by omega)] at e
  rw [← e]; rfl
theorem xor_I (P : Program) (t : TypeId) : binA P .xor t (.int .i64 a) (.int .i64 b) = some (.int .i64 (logZ 8 a b)) := by
  have e := xor64 (a := a) (b := b) (by omega) (by omega)
  rw [← logZ_n 63 8 (by decide) (by omega) (by omega)] at e
  rw [← e]; rfl
end
end Go.Ab
