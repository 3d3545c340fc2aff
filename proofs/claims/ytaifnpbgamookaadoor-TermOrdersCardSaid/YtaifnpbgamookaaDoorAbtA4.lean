/- Bits of a number, the compare, sums. Conditions: limbs in range. -/
import Derived.Test.YtaifnpbgamookaaDoorAbtA3
namespace Go.Ab
open Go.Proofs
set_option maxRecDepth 100000
set_option linter.unusedSimpArgs false

theorem finish_i (k : Bool) (xs : List Arg) (t : Nat) (env : Env) (s : St) (z : Int) (os : List (List AV)) (hv : env t = .int .i64 z) (ho : outsA s 0 xs = some os) : finishP Tryd.prog k xs #[.tmp t] env s = some (.tree (.int .i64 z), os) :=
  finish_tree _ _ _ _ _ _ (.int .i64 z) _ _ hv rfl ho
theorem finish_b (k : Bool) (xs : List Arg) (t : Nat) (env : Env) (s : St) (b : Bool) (os : List (List AV)) (hv : env t = .bool b) (ho : outsA s 0 xs = some os) : finishP Tryd.prog k xs #[.tmp t] env s = some (.tree (.bool b), os) :=
  finish_tree _ _ _ _ _ _ (.bool b) _ _ hv rfl ho
theorem fd_can1 (a b : AV) : fieldA Tryd.prog 25 (.agg [a, b]) 1 = some b := fd_1 a b
/-! ### Cmp -/
theorem cmp_nn (a b : Int) (ha : ¬ a < 0) (hb : ¬ b < 0) : cmpZ a.natAbs b.natAbs = cmpI a b := by
  unfold cmpZ cmpI
  (repeat' split) <;> omega
theorem cmp_mm (a b : Int) (ha : a < 0) (hb : b < 0) : cmpZ b.natAbs a.natAbs = cmpI a b := by
  unfold cmpZ cmpI
  (repeat' split) <;> omega
set_option maxHeartbeats 4000000 in
theorem ncmp_eq (n d : Nat) (hn : 100000 ≤ n) {w w' : AV} {z z' : Int} (hw : IsN w z) (hw' : IsN w' z') : evalFn Tryd.prog cfg0 n (d+4) 41 [.tree w, .tree w'] = some (.tree (.int .i64 (cmpI z z')), [[], []]) := by
  obtain ⟨g, c1⟩ := qOf n (d + 1) hw
  obtain ⟨g', c2⟩ := qOf n (d + 1) hw'
  have hlt := hw.lt
  have hlt' := hw'.lt
  obtain ⟨neg, g0, l, rfl, hl, hz⟩ := hw
  obtain ⟨neg', g0', l', rfl, hl', hz'⟩ := hw'
  rw [evalFn_go _ Tryd.func41 (by unfold Tryd.f41; rfl) (by unfold Tryd.f41; decide) (Nat.le_of_ble_eq_true (by unfold Tryd.f41; rfl)) (by kernel_rfl)]
  by_cases ha : z < 0
  · by_cases hb : z' < 0
    · have c3 := fun D s => cCmp n d hn D s (num_can g' z' hlt') (num_can g z hlt)
      rw [cmp_mm z z' ha hb] at c3
      simp only [zaa, zab, zac, zad, zae, zaf, zag, zah, zai, zaj, zak, zal, zam, zan, zao, zap, zaq, zar, zas, zat, zau, zav, zaw, zax, zay, zaz, zba, zbb, zbc, zbd, zbe, zbf, zbg, zbh, zbi, zbj, Nat.reduceBEq, Bool.or_self, Bool.or_false, Bool.or_true, Bool.and_true, Bool.and_false, Bool.true_and, Bool.false_and, Option.isNone_none, Option.isNone_some, Option.isSome_some, Option.isSome_none, zbk, zbl, zbm, zbn, zbo, zbp, zbq, zbr, zbs, zbt, zbu, zbv, zbw, zbx, zby, zbz, zca, zcb, zcc, zcd, zce, zcf, zcg, zch, zci, zcj, zck, zcl, zcm, zcn, zco, zcp, zcq, zcr, zcs, zct, zcu, zcv, zcw, zcx, zcy, zcz, zda, zdb, zdc, zdd, zde, zdf, Option.getD_some, Option.getD_none, zet, zeu, zev, zew, zex, zey, zez, zfa, Option.map_some, Option.map_none, Option.bind_some, List.map_cons, List.map_nil, List.cons_append, List.nil_append, ↓reduceIte, Nat.reduceEqDiff, Nat.reduceAdd, decide_true, decide_false, Bool.true_eq_false, Bool.false_eq_true, env0, List.getElem?_cons_zero, List.getElem?_cons_succ, zdg, zdh, zdi, zdj, zdk, zdl, zdm, zdn, ia22, ld31, zdo, zdp, zdq, zdr, zds, zdt, zdu, zdv, zdw, zdx, zdy, zdz, zea, zeb, zec, fa_0, fa_1, zed, bd_0, bd_2, zee, fd_1, zef, Nat.zero_add, st0_2, c1, c2, ha, hb, unA_not', Bool.not_true, Bool.not_false, c3]
      exact finish_i _ _ _ _ _ _ _ (by simp only [zfa, ↓reduceIte]) rfl
    · simp only [zaa, zab, zac, zad, zae, zaf, zag, zah, zai, zaj, zak, zal, zam, zan, zao, zap, zaq, zar, zas, zat, zau, zav, zaw, zax, zay, zaz, zba, zbb, zbc, zbd, zbe, zbf, zbg, zbh, zbi, zbj, Nat.reduceBEq, Bool.or_self, Bool.or_false, Bool.or_true, Bool.and_true, Bool.and_false, Bool.true_and, Bool.false_and, Option.isNone_none, Option.isNone_some, Option.isSome_some, Option.isSome_none, zbk, zbl, zbm, zbn, zbo, zbp, zbq, zbr, zbs, zbt, zbu, zbv, zbw, zbx, zby, zbz, zca, zcb, zcc, zcd, zce, zcf, zcg, zch, zci, zcj, zck, zcl, zcm, zcn, zco, zcp, zcq, zcr, zcs, zct, zcu, zcv, zcw, zcx, zcy, zcz, zda, zdb, zdc, zdd, zde, zdf, Option.getD_some, Option.getD_none, zet, zeu, zev, zew, zex, zey, zez, zfa, Option.map_some, Option.map_none, Option.bind_some, List.map_cons, List.map_nil, List.cons_append, List.nil_append, ↓reduceIte, Nat.reduceEqDiff, Nat.reduceAdd, decide_true, decide_false, Bool.true_eq_false, Bool.false_eq_true, env0, List.getElem?_cons_zero, List.getElem?_cons_succ, zdg, zdh, zdi, zdj, zdk, zdl, zdm, zdn, ia22, ld31, zdo, zdp, zdq, zdr, zds, zdt, zdu, zdv, zdw, zdx, zdy, zdz, zea, zeb, zec, fa_0, fa_1, zed, bd_0, bd_2, zee, fd_1, zef, Nat.zero_add, st0_2, c1, c2, ha, hb, unA_not', Bool.not_true, Bool.not_false]
      rw [show cmpI z z' = -1 by rw [cmpI, if_pos (by omega)]]
      exact finish_i _ _ _ _ _ _ _ (by simp only [zfa, ↓reduceIte]) rfl
  · by_cases hb : z' < 0
    · simp only [zaa, zab, zac, zad, zae, zaf, zag, zah, zai, zaj, zak, zal, zam, zan, zao, zap, zaq, zar, zas, zat, zau, zav, zaw, zax, zay, zaz, zba, zbb, zbc, zbd, zbe, zbf, zbg, zbh, zbi, zbj, Nat.reduceBEq, Bool.or_self, Bool.or_false, Bool.or_true, Bool.and_true, Bool.and_false, Bool.true_and, Bool.false_and, Option.isNone_none, Option.isNone_some, Option.isSome_some, Option.isSome_none, zbk, zbl, zbm, zbn, zbo, zbp, zbq, zbr, zbs, zbt, zbu, zbv, zbw, zbx, zby, zbz, zca, zcb, zcc, zcd, zce, zcf, zcg, zch, zci, zcj, zck, zcl, zcm, zcn, zco, zcp, zcq, zcr, zcs, zct, zcu, zcv, zcw, zcx, zcy, zcz, zda, zdb, zdc, zdd, zde, zdf, Option.getD_some, Option.getD_none, zet, zeu, zev, zew, zex, zey, zez, zfa, Option.map_some, Option.map_none, Option.bind_some, List.map_cons, List.map_nil, List.cons_append, List.nil_append, ↓reduceIte, Nat.reduceEqDiff, Nat.reduceAdd, decide_true, decide_false, Bool.true_eq_false, Bool.false_eq_true, env0, List.getElem?_cons_zero, List.getElem?_cons_succ, zdg, zdh, zdi, zdj, zdk, zdl, zdm, zdn, ia22, ld31, zdo, zdp, zdq, zdr, zds, zdt, zdu, zdv, zdw, zdx, zdy, zdz, zea, zeb, zec, fa_0, fa_1, zed, bd_0, bd_2, zee, fd_1, zef, Nat.zero_add, st0_2, c1, c2, ha, hb, unA_not', Bool.not_true, Bool.not_false]
      rw [show cmpI z z' = 1 by rw [cmpI, if_neg (by omega), if_pos (by omega)]]
      exact finish_i _ _ _ _ _ _ _ (by simp only [zfa, ↓reduceIte]) rfl
    · have c3 := fun D s => cCmp n d hn D s (num_can g z hlt) (num_can g' z' hlt')
      rw [cmp_nn z z' ha hb] at c3
      simp only [zaa, zab, zac, zad, zae, zaf, zag, zah, zai, zaj, zak, zal, zam, zan, zao, zap, zaq, zar, zas, zat, zau, zav, zaw, zax, zay, zaz, zba, zbb, zbc, zbd, zbe, zbf, zbg, zbh, zbi, zbj, Nat.reduceBEq, Bool.or_self, Bool.or_false, Bool.or_true, Bool.and_true, Bool.and_false, Bool.true_and, Bool.false_and, Option.isNone_none, Option.isNone_some, Option.isSome_some, Option.isSome_none, zbk, zbl, zbm, zbn, zbo, zbp, zbq, zbr, zbs, zbt, zbu, zbv, zbw, zbx, zby, zbz, zca, zcb, zcc, zcd, zce, zcf, zcg, zch, zci, zcj, zck, zcl, zcm, zcn, zco, zcp, zcq, zcr, zcs, zct, zcu, zcv, zcw, zcx, zcy, zcz, zda, zdb, zdc, zdd, zde, zdf, Option.getD_some, Option.getD_none, zet, zeu, zev, zew, zex, zey, zez, zfa, Option.map_some, Option.map_none, Option.bind_some, List.map_cons, List.map_nil, List.cons_append, List.nil_append, ↓reduceIte, Nat.reduceEqDiff, Nat.reduceAdd, decide_true, decide_false, Bool.true_eq_false, Bool.false_eq_true, env0, List.getElem?_cons_zero, List.getElem?_cons_succ, zdg, zdh, zdi, zdj, zdk, zdl, zdm, zdn, ia22, ld31, zdo, zdp, zdq, zdr, zds, zdt, zdu, zdv, zdw, zdx, zdy, zdz, zea, zeb, zec, fa_0, fa_1, zed, bd_0, bd_2, zee, fd_1, zef, Nat.zero_add, st0_2, c1, c2, ha, hb, unA_not', Bool.not_true, Bool.not_false, c3]
      exact finish_i _ _ _ _ _ _ _ (by simp only [zfa, ↓reduceIte]) rfl
theorem cNcmp (n d : Nat) (hn : 100000 ≤ n) {w w' : AV} {z z' : Int} (hw : IsN w z) (hw' : IsN w' z') (D : Nat) (s : St) : callA cfg0 (evalFn Tryd.prog cfg0 n (d+4)) D s 41 [w, w'] = some (.int .i64 (cmpI z z'), s) :=
  callA_trees (by simp [hw.tree, hw'.tree]) (ncmp_eq n d hn hw hw')

/-! ### add -/
theorem bool_eql (t : TypeId) (ht : tkOf Tryd.prog t = .bool) (a b : Bool) : binA Tryd.prog .eql t (.bool a) (.bool b) = some (.bool (a == b)) := by
  simp only [binA, ht]
theorem bool_neq (t : TypeId) (ht : tkOf Tryd.prog t = .bool) (a b : Bool) : binA Tryd.prog .neq t (.bool a) (.bool b) = some (.bool (!(a == b))) := by
  simp only [binA, ht]
theorem add_same (a b : Int) (h : decide (a < 0) = decide (b < 0)) : sgn (decide (a < 0)) (a.natAbs + b.natAbs) = a + b := by
  unfold sgn
  by_cases ha : a < 0
  · have hb : b < 0 := by rw [decide_eq_true ha] at h; exact of_decide_eq_true h.symm
    simp only [ha, decide_true, if_true]; omega
  · have hb : ¬ b < 0 := by rw [decide_eq_false ha] at h; exact of_decide_eq_false h.symm
    simp only [ha, decide_false, Bool.false_eq_true, if_false]; omega
theorem add_less (a b : Int) (h : decide (a < 0) ≠ decide (b < 0)) (hc : a.natAbs < b.natAbs) : sgn (decide (b < 0)) (b.natAbs - a.natAbs) = a + b := by
  unfold sgn
  by_cases ha : a < 0 <;> by_cases hb : b < 0 <;> simp only [ha, hb, decide_true, decide_false, if_true, Bool.false_eq_true, if_false] at h ⊢ <;> first | omega | exact absurd rfl h
theorem add_more (a b : Int) (h : decide (a < 0) ≠ decide (b < 0)) (hc : ¬ a.natAbs < b.natAbs) : sgn (decide (a < 0)) (a.natAbs - b.natAbs) = a + b := by
  unfold sgn
  by_cases ha : a < 0 <;> by_cases hb : b < 0 <;> simp only [ha, hb, decide_true, decide_false, if_true, Bool.false_eq_true, if_false] at h ⊢ <;> first | omega | exact absurd rfl h
theorem lt13 {a b : Nat} (ha : a < B ^ 12) (hb : b < B ^ 12) : a + b < B ^ 13 := by
  have : B ^ 12 * 4 ≤ B ^ 13 := by rw [show (13 : Nat) = 12 + 1 from rfl, Nat.pow_succ]; exact Nat.mul_le_mul_left _ (by decide)
  omega
theorem madeV_eq (z : Int) : madeV z = .tup [encZ (mkZ z).1, .bool (mkZ z).2] := rfl
end Go.Ab
