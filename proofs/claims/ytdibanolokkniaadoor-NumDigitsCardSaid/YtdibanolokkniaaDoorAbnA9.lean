/- What the number statements ask besides; the statement NumOrders, abstractly. Conditions: limbs in range. -/
import Derived.Test.YtdibanolokkniaaDoorAbnA7a
import Derived.Test.YtdibanolokkniaaDoorAbnA8
namespace Go.Ab
open Go.Proofs
set_option maxRecDepth 100000
set_option linter.unusedSimpArgs false

set_option maxHeartbeats 2000000 in
theorem rcheck_eq (n d : Nat) (neg : Bool) (g : Gk) (l : List Nat) (hl : Limbs l) : evalFn Tryd.prog cfg0 n (d+1) 11 [.tree (encA neg g l)] = some (.tree (.bool (chkN neg l)), [[]]) := by
  rw [evalFn_go _ Tryd.func11 (by unfold Tryd.f11; rfl) (by unfold Tryd.f11; decide) (Nat.le_of_ble_eq_true (by unfold Tryd.f11; rfl)) (by kernel_rfl)]
  unfold chkN
  by_cases h : (l.length : Int) ≤ 12
  rotate_left
  · have e1 : decide (l.length ≤ 12) = false := decide_eq_false (by omega)
    simp only [zaa, zab, zac, zad, zae, zaf, zag, zah, zai, zaj, zak, zal, zam, zan, zao, zap, zaq, zar, zas, zat, zau, zav, zaw, zax, zay, zaz, zba, zbb, zbc, zbd, zbe, zbf, zbg, zbh, zbi, zbj, Nat.reduceBEq, Bool.or_self, Bool.or_false, Bool.or_true, Bool.and_true, Bool.and_false, Bool.true_and, Bool.false_and, Option.isNone_none, Option.isNone_some, Option.isSome_some, Option.isSome_none, zbk, zbl, zbm, zbn, zbo, zbp, zbq, zbr, zbs, zbt, zbu, zbv, zbw, zbx, zby, zbz, zca, zcb, zcc, zcd, zce, zcf, zcg, zch, zci, zcj, zck, zcl, zcm, zcn, zco, zcp, zcq, zcr, zcs, zct, zcu, zcv, zcw, zcx, zcy, zcz, zda, zdb, zdc, zdd, zde, zdf, Option.getD_some, Option.getD_none, zet, zeu, zev, zew, zex, zey, zez, zfa, Option.map_some, Option.map_none, Option.bind_some, List.map_cons, List.map_nil, List.cons_append, List.nil_append, ↓reduceIte, Nat.reduceEqDiff, Nat.reduceAdd, decide_true, decide_false, Bool.true_eq_false, Bool.false_eq_true, env0, List.getElem?_cons_zero, List.getElem?_cons_succ, zdg, zdh, zdi, zdj, zdk, zdl, zdm, zdn, ia22, ld31, zdo, zdp, zdq, zdr, zds, zdt, zdu, zdv, zdw, zdx, zdy, zdz, zea, zeb, zec, fa_0, fa_1, zed, bd_0, bd_2, zee, fd_1, zef, Nat.zero_add, st0_1, h, e1, Bool.false_and]
    exact finish_tree _ _ _ _ _ _ (.bool false) _ _ (by simp only [zfa, ↓reduceIte]) rfl rfl
  have e1 : decide (l.length ≤ 12) = true := decide_eq_true (by omega)
  by_cases hz : l = []
  · subst hz
    have p1 : (((([] : List Nat).length : Nat) : Int) == 0) = true := rfl
    cases neg with
    | false =>
      simp only [zaa, zab, zac, zad, zae, zaf, zag, zah, zai, zaj, zak, zal, zam, zan, zao, zap, zaq, zar, zas, zat, zau, zav, zaw, zax, zay, zaz, zba, zbb, zbc, zbd, zbe, zbf, zbg, zbh, zbi, zbj, Nat.reduceBEq, Bool.or_self, Bool.or_false, Bool.or_true, Bool.and_true, Bool.and_false, Bool.true_and, Bool.false_and, Option.isNone_none, Option.isNone_some, Option.isSome_some, Option.isSome_none, zbk, zbl, zbm, zbn, zbo, zbp, zbq, zbr, zbs, zbt, zbu, zbv, zbw, zbx, zby, zbz, zca, zcb, zcc, zcd, zce, zcf, zcg, zch, zci, zcj, zck, zcl, zcm, zcn, zco, zcp, zcq, zcr, zcs, zct, zcu, zcv, zcw, zcx, zcy, zcz, zda, zdb, zdc, zdd, zde, zdf, Option.getD_some, Option.getD_none, zet, zeu, zev, zew, zex, zey, zez, zfa, Option.map_some, Option.map_none, Option.bind_some, List.map_cons, List.map_nil, List.cons_append, List.nil_append, ↓reduceIte, Nat.reduceEqDiff, Nat.reduceAdd, decide_true, decide_false, Bool.true_eq_false, Bool.false_eq_true, env0, List.getElem?_cons_zero, List.getElem?_cons_succ, zdg, zdh, zdi, zdj, zdk, zdl, zdm, zdn, ia22, ld31, zdo, zdp, zdq, zdr, zds, zdt, zdu, zdv, zdw, zdx, zdy, zdz, zea, zeb, zec, fa_0, fa_1, zed, bd_0, bd_2, zee, fd_1, zef, Nat.zero_add, st0_1, h, p1, unA_not', Bool.not_false]
      exact finish_tree _ _ _ _ _ _ (.bool true) _ _ (by simp only [zfa, ↓reduceIte]) rfl rfl
    | true =>
      have p2 : ¬ ((([] : List Nat).length : Nat) : Int) > 0 := by simp
      simp only [zaa, zab, zac, zad, zae, zaf, zag, zah, zai, zaj, zak, zal, zam, zan, zao, zap, zaq, zar, zas, zat, zau, zav, zaw, zax, zay, zaz, zba, zbb, zbc, zbd, zbe, zbf, zbg, zbh, zbi, zbj, Nat.reduceBEq, Bool.or_self, Bool.or_false, Bool.or_true, Bool.and_true, Bool.and_false, Bool.true_and, Bool.false_and, Option.isNone_none, Option.isNone_some, Option.isSome_some, Option.isSome_none, zbk, zbl, zbm, zbn, zbo, zbp, zbq, zbr, zbs, zbt, zbu, zbv, zbw, zbx, zby, zbz, zca, zcb, zcc, zcd, zce, zcf, zcg, zch, zci, zcj, zck, zcl, zcm, zcn, zco, zcp, zcq, zcr, zcs, zct, zcu, zcv, zcw, zcx, zcy, zcz, zda, zdb, zdc, zdd, zde, zdf, Option.getD_some, Option.getD_none, zet, zeu, zev, zew, zex, zey, zez, zfa, Option.map_some, Option.map_none, Option.bind_some, List.map_cons, List.map_nil, List.cons_append, List.nil_append, ↓reduceIte, Nat.reduceEqDiff, Nat.reduceAdd, decide_true, decide_false, Bool.true_eq_false, Bool.false_eq_true, env0, List.getElem?_cons_zero, List.getElem?_cons_succ, zdg, zdh, zdi, zdj, zdk, zdl, zdm, zdn, ia22, ld31, zdo, zdp, zdq, zdr, zds, zdt, zdu, zdv, zdw, zdx, zdy, zdz, zea, zeb, zec, fa_0, fa_1, zed, bd_0, bd_2, zee, fd_1, zef, Nat.zero_add, st0_1, h, p1, p2, unA_not', Bool.not_true]
      exact finish_tree _ _ _ _ _ _ (.bool false) _ _ (by simp only [zfa, ↓reduceIte]) rfl rfl
  · have hp : 0 < l.length := List.length_pos_iff.mpr hz
    have p1 : ((l.length : Int) == 0) = false := by rw [beq_eq_false_iff_ne]; omega
    have p2 : (l.length : Int) > 0 := by omega
    have p3 := i_sub Tryd.prog 3 (l.length : Int) 1 (by omega) (by omega)
    have p4 : (0 : Int) ≤ (l.length : Int) - 1 := by omega
    have p5 : (l.length : Int) - 1 < l.length := by omega
    have p6 : ((l.length : Int) - 1).toNat = l.length - 1 := by omega
    have p7 : l.length - 1 < l.length := by omega
    have q1 : decide (l.length = 0) = false := decide_eq_false (by omega)
    have q2 : decide (0 < l.length) = true := decide_eq_true hp
    simp only [zaa, zab, zac, zad, zae, zaf, zag, zah, zai, zaj, zak, zal, zam, zan, zao, zap, zaq, zar, zas, zat, zau, zav, zaw, zax, zay, zaz, zba, zbb, zbc, zbd, zbe, zbf, zbg, zbh, zbi, zbj, Nat.reduceBEq, Bool.or_self, Bool.or_false, Bool.or_true, Bool.and_true, Bool.and_false, Bool.true_and, Bool.false_and, Option.isNone_none, Option.isNone_some, Option.isSome_some, Option.isSome_none, zbk, zbl, zbm, zbn, zbo, zbp, zbq, zbr, zbs, zbt, zbu, zbv, zbw, zbx, zby, zbz, zca, zcb, zcc, zcd, zce, zcf, zcg, zch, zci, zcj, zck, zcl, zcm, zcn, zco, zcp, zcq, zcr, zcs, zct, zcu, zcv, zcw, zcx, zcy, zcz, zda, zdb, zdc, zdd, zde, zdf, Option.getD_some, Option.getD_none, zet, zeu, zev, zew, zex, zey, zez, zfa, Option.map_some, Option.map_none, Option.bind_some, List.map_cons, List.map_nil, List.cons_append, List.nil_append, ↓reduceIte, Nat.reduceEqDiff, Nat.reduceAdd, decide_true, decide_false, Bool.true_eq_false, Bool.false_eq_true, env0, List.getElem?_cons_zero, List.getElem?_cons_succ, zdg, zdh, zdi, zdj, zdk, zdl, zdm, zdn, ia22, ld31, zdo, zdp, zdq, zdr, zds, zdt, zdu, zdv, zdw, zdx, zdy, zdz, zea, zeb, zec, fa_0, fa_1, zed, bd_0, bd_2, zee, fd_1, zef, Nat.zero_add, st0_1, h, p1, p2, p3, p4, p5, p6, p7, e1, q1, q2, neq0, Bool.false_and, Bool.false_or, Bool.true_and]
    exact finish_tree _ _ _ _ _ _ (.bool (decide (l.getD (l.length - 1) 0 ≠ 0))) _ _ (by simp only [zfa, ↓reduceIte]) rfl rfl
theorem cRcheck (n d : Nat) (neg : Bool) (g : Gk) (l : List Nat) (hl : Limbs l) (D : Nat) (s : St) : callA cfg0 (evalFn Tryd.prog cfg0 n (d+1)) D s 11 [encA neg g l] = some (.bool (chkN neg l), s) :=
  callA_trees rfl (rcheck_eq n d neg g l hl)
set_option maxHeartbeats 2000000 in
theorem sameN_eq (n d : Nat) (b : Bool) (g g' : Gk) (l : List Nat) (hn : l.length < n) (hk : l.length ≤ 1000000) : evalFn Tryd.prog cfg0 n (d+2) 16 [.tree (encA b g l), .tree (encA b g' l)] = some (.tree (.bool true), [[], []]) := by
  rw [evalFn_go _ Tryd.func16 (by unfold Tryd.f16; rfl) (by unfold Tryd.f16; decide) (Nat.le_of_ble_eq_true (by unfold Tryd.f16; rfl)) (by kernel_rfl)]
  have c1 := fun D s => callA_L2 (evalFn Tryd.prog cfg0 n (d+1)) D s 43 g l g' l _ (same_eq n d g g' l hn hk)
  have eb := bool_eql 4 tk4
  have p : (b == b) = true := beq_self_eq_true b
  simp only [zaa, zab, zac, zad, zae, zaf, zag, zah, zai, zaj, zak, zal, zam, zan, zao, zap, zaq, zar, zas, zat, zau, zav, zaw, zax, zay, zaz, zba, zbb, zbc, zbd, zbe, zbf, zbg, zbh, zbi, zbj, Nat.reduceBEq, Bool.or_self, Bool.or_false, Bool.or_true, Bool.and_true, Bool.and_false, Bool.true_and, Bool.false_and, Option.isNone_none, Option.isNone_some, Option.isSome_some, Option.isSome_none, zbk, zbl, zbm, zbn, zbo, zbp, zbq, zbr, zbs, zbt, zbu, zbv, zbw, zbx, zby, zbz, zca, zcb, zcc, zcd, zce, zcf, zcg, zch, zci, zcj, zck, zcl, zcm, zcn, zco, zcp, zcq, zcr, zcs, zct, zcu, zcv, zcw, zcx, zcy, zcz, zda, zdb, zdc, zdd, zde, zdf, Option.getD_some, Option.getD_none, zet, zeu, zev, zew, zex, zey, zez, zfa, Option.map_some, Option.map_none, Option.bind_some, List.map_cons, List.map_nil, List.cons_append, List.nil_append, ↓reduceIte, Nat.reduceEqDiff, Nat.reduceAdd, decide_true, decide_false, Bool.true_eq_false, Bool.false_eq_true, env0, List.getElem?_cons_zero, List.getElem?_cons_succ, zdg, zdh, zdi, zdj, zdk, zdl, zdm, zdn, ia22, ld31, zdo, zdp, zdq, zdr, zds, zdt, zdu, zdv, zdw, zdx, zdy, zdz, zea, zeb, zec, fa_0, fa_1, zed, bd_0, bd_2, zee, fd_1, zef, Nat.zero_add, st0_2, eb, p, c1]
  exact finish_b _ _ _ _ _ _ _ (by simp only [zfa, ↓reduceIte]) rfl
section
variable (n d : Nat) (hn : 100000 ≤ n)
include hn
theorem qNcmp {w w' : AV} {z z' : Int} (hw : IsN w z) (hw' : IsN w' z') : callQ (evalFn Tryd.prog cfg0 n (d+4)) 19 [w, w'] = some (.int .i64 (cmpI z z')) :=
  callQ_trees (by simp [hw.tree, hw'.tree]) (ncmp_eq n d hn hw hw')
theorem qNeg {w : AV} {z : Int} (hw : IsN w z) : callQ (evalFn Tryd.prog cfg0 n (d+3)) 22 [w] = some (encZ (-z)) :=
  callQ_trees (by simp [hw.tree]) (neg_eq n d hn hw)
theorem qOf64 (z : Int) (h : -9223372036854775808 ≤ z) (h' : z ≤ 9223372036854775807) : callQ (evalFn Tryd.prog cfg0 n (d+3)) 15 [.int .i64 z] = some (encZ z) :=
  callQ_trees rfl (of64_eq n d hn z h h')
theorem qSameZ (z : Int) (h : z.natAbs < B ^ 12) (g : Gk) : callQ (evalFn Tryd.prog cfg0 n (d+2)) 16 [encZ z, canA g z] = some (.bool true) :=
  callQ_trees rfl (sameN_eq n d _ _ g _ (by have := digs_len _ 12 h; omega) (by have := digs_len _ 12 h; omega))
end
theorem encZ_fold (z : Int) : (.agg [.bool (decide (z < 0)), encR z.natAbs] : AV) = encZ z := rfl
theorem qAwakeN : callQ (evalFn Tryd.prog cfg0 100000 12) 12 [] = some (.bool true) := callQ_trees rfl awakeN_eq
theorem cmp_sub (a b : Int) : cmpI (a - b) 0 = cmpI a b := by
  unfold cmpI
  (repeat' split) <;> omega
theorem cmp_flip (a b : Int) : cmpI b a = - cmpI a b := by
  unfold cmpI
  (repeat' split) <;> omega
theorem cmp_negs (a b : Int) : cmpI (-a) (-b) = - cmpI a b := by
  unfold cmpI
  (repeat' split) <;> omega
theorem cmp_zero (a : Int) : decide (cmpI a 0 < 0) = decide (a < 0) := by
  rw [decide_eq_decide]
  unfold cmpI
  (repeat' split) <;> omega
theorem cmp_range (a b : Int) : -1 ≤ cmpI a b ∧ cmpI a b ≤ 1 := by
  unfold cmpI
  (repeat' split) <;> omega
theorem un_neg_small (x : Int) (h : -1 ≤ x ∧ x ≤ 1) : unA .neg (.int .i64 x) = some (.int .i64 (-x)) := by
  have := i64_wrap (0 - x) (by omega) (by omega)
  simp only [unA, this]
  congr 2; omega
set_option maxHeartbeats 8000000 in
theorem orders_eqN (b1 b2 : Bool) (g1 g2 : Gk) (l1 l2 : List Nat) (h1 : Limbs l1) (h2 : Limbs l2) : evalFn Tryd.prog cfg0 100000 13 5 [.tree (encA b1 g1 l1), .tree (encA b2 g2 l2)] = some (.tree (.bool true), [[], []]) := by
  rw [evalFn_go _ Tryd.func5 (by unfold Tryd.f5; rfl) (by unfold Tryd.f5; decide) (Nat.le_of_ble_eq_true (by unfold Tryd.f5; rfl)) (by kernel_rfl)]
  have r1 := fun D s => cRcheck 100000 11 b1 g1 l1 h1 D s
  have r2 := fun D s => cRcheck 100000 11 b2 g2 l2 h2 D s
  have w := cAwakeN
  cases hc1 : chkN b1 l1 with
  | false =>
    simp only [zaa, zab, zac, zad, zae, zaf, zag, zah, zai, zaj, zak, zal, zam, zan, zao, zap, zaq, zar, zas, zat, zau, zav, zaw, zax, zay, zaz, zba, zbb, zbc, zbd, zbe, zbf, zbg, zbh, zbi, zbj, Nat.reduceBEq, Bool.or_self, Bool.or_false, Bool.or_true, Bool.and_true, Bool.and_false, Bool.true_and, Bool.false_and, Option.isNone_none, Option.isNone_some, Option.isSome_some, Option.isSome_none, zbk, zbl, zbm, zbn, zbo, zbp, zbq, zbr, zbs, zbt, zbu, zbv, zbw, zbx, zby, zbz, zca, zcb, zcc, zcd, zce, zcf, zcg, zch, zci, zcj, zck, zcl, zcm, zcn, zco, zcp, zcq, zcr, zcs, zct, zcu, zcv, zcw, zcx, zcy, zcz, zda, zdb, zdc, zdd, zde, zdf, Option.getD_some, Option.getD_none, zet, zeu, zev, zew, zex, zey, zez, zfa, Option.map_some, Option.map_none, Option.bind_some, List.map_cons, List.map_nil, List.cons_append, List.nil_append, ↓reduceIte, Nat.reduceEqDiff, Nat.reduceAdd, decide_true, decide_false, Bool.true_eq_false, Bool.false_eq_true, env0, List.getElem?_cons_zero, List.getElem?_cons_succ, zdg, zdh, zdi, zdj, zdk, zdl, zdm, zdn, ia22, ld31, zdo, zdp, zdq, zdr, zds, zdt, zdu, zdv, zdw, zdx, zdy, zdz, zea, zeb, zec, fa_0, fa_1, zed, bd_0, bd_2, zee, fd_1, zef, Nat.zero_add, st0_2, r1, hc1, unA_not', Bool.not_false, w]
    exact finish_b _ _ _ _ _ _ _ (by simp only [zfa, ↓reduceIte]) rfl
  | true =>
    cases hc2 : chkN b2 l2 with
    | false =>
      simp only [zaa, zab, zac, zad, zae, zaf, zag, zah, zai, zaj, zak, zal, zam, zan, zao, zap, zaq, zar, zas, zat, zau, zav, zaw, zax, zay, zaz, zba, zbb, zbc, zbd, zbe, zbf, zbg, zbh, zbi, zbj, Nat.reduceBEq, Bool.or_self, Bool.or_false, Bool.or_true, Bool.and_true, Bool.and_false, Bool.true_and, Bool.false_and, Option.isNone_none, Option.isNone_some, Option.isSome_some, Option.isSome_none, zbk, zbl, zbm, zbn, zbo, zbp, zbq, zbr, zbs, zbt, zbu, zbv, zbw, zbx, zby, zbz, zca, zcb, zcc, zcd, zce, zcf, zcg, zch, zci, zcj, zck, zcl, zcm, zcn, zco, zcp, zcq, zcr, zcs, zct, zcu, zcv, zcw, zcx, zcy, zcz, zda, zdb, zdc, zdd, zde, zdf, Option.getD_some, Option.getD_none, zet, zeu, zev, zew, zex, zey, zez, zfa, Option.map_some, Option.map_none, Option.bind_some, List.map_cons, List.map_nil, List.cons_append, List.nil_append, ↓reduceIte, Nat.reduceEqDiff, Nat.reduceAdd, decide_true, decide_false, Bool.true_eq_false, Bool.false_eq_true, env0, List.getElem?_cons_zero, List.getElem?_cons_succ, zdg, zdh, zdi, zdj, zdk, zdl, zdm, zdn, ia22, ld31, zdo, zdp, zdq, zdr, zds, zdt, zdu, zdv, zdw, zdx, zdy, zdz, zea, zeb, zec, fa_0, fa_1, zed, bd_0, bd_2, zee, fd_1, zef, Nat.zero_add, st0_2, r1, r2, hc1, hc2, unA_not', Bool.not_false, Bool.not_true, w]
      exact finish_b _ _ _ _ _ _ _ (by simp only [zfa, ↓reduceIte]) rfl
    | true =>
      by_cases k1 : (l1.length : Int) > 8
      · simp only [zaa, zab, zac, zad, zae, zaf, zag, zah, zai, zaj, zak, zal, zam, zan, zao, zap, zaq, zar, zas, zat, zau, zav, zaw, zax, zay, zaz, zba, zbb, zbc, zbd, zbe, zbf, zbg, zbh, zbi, zbj, Nat.reduceBEq, Bool.or_self, Bool.or_false, Bool.or_true, Bool.and_true, Bool.and_false, Bool.true_and, Bool.false_and, Option.isNone_none, Option.isNone_some, Option.isSome_some, Option.isSome_none, zbk, zbl, zbm, zbn, zbo, zbp, zbq, zbr, zbs, zbt, zbu, zbv, zbw, zbx, zby, zbz, zca, zcb, zcc, zcd, zce, zcf, zcg, zch, zci, zcj, zck, zcl, zcm, zcn, zco, zcp, zcq, zcr, zcs, zct, zcu, zcv, zcw, zcx, zcy, zcz, zda, zdb, zdc, zdd, zde, zdf, Option.getD_some, Option.getD_none, zet, zeu, zev, zew, zex, zey, zez, zfa, Option.map_some, Option.map_none, Option.bind_some, List.map_cons, List.map_nil, List.cons_append, List.nil_append, ↓reduceIte, Nat.reduceEqDiff, Nat.reduceAdd, decide_true, decide_false, Bool.true_eq_false, Bool.false_eq_true, env0, List.getElem?_cons_zero, List.getElem?_cons_succ, zdg, zdh, zdi, zdj, zdk, zdl, zdm, zdn, ia22, ld31, zdo, zdp, zdq, zdr, zds, zdt, zdu, zdv, zdw, zdx, zdy, zdz, zea, zeb, zec, fa_0, fa_1, zed, bd_0, bd_2, zee, fd_1, zef, Nat.zero_add, st0_2, r1, r2, hc1, hc2, k1, unA_not', Bool.not_false, Bool.not_true, w]
        exact finish_b _ _ _ _ _ _ _ (by simp only [zfa, ↓reduceIte]) rfl
      by_cases k2 : (l2.length : Int) > 8
      · simp only [zaa, zab, zac, zad, zae, zaf, zag, zah, zai, zaj, zak, zal, zam, zan, zao, zap, zaq, zar, zas, zat, zau, zav, zaw, zax, zay, zaz, zba, zbb, zbc, zbd, zbe, zbf, zbg, zbh, zbi, zbj, Nat.reduceBEq, Bool.or_self, Bool.or_false, Bool.or_true, Bool.and_true, Bool.and_false, Bool.true_and, Bool.false_and, Option.isNone_none, Option.isNone_some, Option.isSome_some, Option.isSome_none, zbk, zbl, zbm, zbn, zbo, zbp, zbq, zbr, zbs, zbt, zbu, zbv, zbw, zbx, zby, zbz, zca, zcb, zcc, zcd, zce, zcf, zcg, zch, zci, zcj, zck, zcl, zcm, zcn, zco, zcp, zcq, zcr, zcs, zct, zcu, zcv, zcw, zcx, zcy, zcz, zda, zdb, zdc, zdd, zde, zdf, Option.getD_some, Option.getD_none, zet, zeu, zev, zew, zex, zey, zez, zfa, Option.map_some, Option.map_none, Option.bind_some, List.map_cons, List.map_nil, List.cons_append, List.nil_append, ↓reduceIte, Nat.reduceEqDiff, Nat.reduceAdd, decide_true, decide_false, Bool.true_eq_false, Bool.false_eq_true, env0, List.getElem?_cons_zero, List.getElem?_cons_succ, zdg, zdh, zdi, zdj, zdk, zdl, zdm, zdn, ia22, ld31, zdo, zdp, zdq, zdr, zds, zdt, zdu, zdv, zdw, zdx, zdy, zdz, zea, zeb, zec, fa_0, fa_1, zed, bd_0, bd_2, zee, fd_1, zef, Nat.zero_add, st0_2, r1, r2, hc1, hc2, k1, k2, unA_not', Bool.not_false, Bool.not_true, w]
        exact finish_b _ _ _ _ _ _ _ (by simp only [zfa, ↓reduceIte]) rfl
      have v1 : val l1 < B ^ 8 := Nat.lt_of_lt_of_le (val_lt l1 h1) (Nat.pow_le_pow_right (by decide) (by omega))
      have v2 : val l2 < B ^ 8 := Nat.lt_of_lt_of_le (val_lt l2 h2) (Nat.pow_le_pow_right (by decide) (by omega))
      have n1 := isN_A b1 g1 l1 h1
      have n2 := isN_A b2 g2 l2 h2
      have a1 := (numZ_is h1 hc1).1
      have a2 := (numZ_is h2 hc2).1
      have e1 := canA_of (g := g1) h1 hc1
      rw [gz, if_pos hc1] at e1
      have s1 := (numZ_is h1 hc1).2.1
      generalize numZ b1 l1 = z1 at *
      generalize numZ b2 l2 = z2 at *
      have h12 : z1.natAbs < B ^ 12 := n1.lt
      have hd : (z1 - z2).natAbs < B ^ 12 := by
        have hB : B ^ 8 * 4 ≤ B ^ 9 := by rw [show (9 : Nat) = 8 + 1 from rfl, Nat.pow_succ]; exact Nat.mul_le_mul_left _ (by decide)
        have hB2 : B ^ 9 ≤ B ^ 12 := Nat.pow_le_pow_right (by decide) (by decide)
        generalize B ^ 9 = p at *; generalize B ^ 8 = q at *; generalize B ^ 12 = r at *
        omega
      have o2 := fun D s => callA_trees (cfg := cfg0) (d := D) (s := s) (vs := [.int .i64 2, encA b1 g1 l1, encA b2 g2 l2]) rfl (op2_eq 100000 6 (Nat.le_refl _) n1 n2)
      rw [madeV_fit hd] at o2
      have nd := isN_Z _ hd
      have q0 := qOf64 100000 9 (Nat.le_refl _) 0 (by decide) (by decide)
      have n0 : IsN (encZ 0) 0 := isN_Z 0 (Nat.pow_pos (by decide))
      have q1 := qNcmp 100000 8 (Nat.le_refl _) nd n0
      rw [cmp_sub] at q1
      have q2 := qNcmp 100000 8 (Nat.le_refl _) n1 n2
      have q3 := qNcmp 100000 8 (Nat.le_refl _) n2 n1
      rw [cmp_flip] at q3
      have q4 := qNeg 100000 9 (Nat.le_refl _) n1
      have q5 := qNeg 100000 9 (Nat.le_refl _) n2
      have m1 : IsN (encZ (-z1)) (-z1) := isN_Z _ (by rw [Int.natAbs_neg]; exact n1.lt)
      have m2 : IsN (encZ (-z2)) (-z2) := isN_Z _ (by rw [Int.natAbs_neg]; exact n2.lt)
      have q6 := qNcmp 100000 8 (Nat.le_refl _) m1 m2
      rw [cmp_negs] at q6
      have q7 := qNeg 100000 9 (Nat.le_refl _) m1
      rw [Int.neg_neg] at q7
      have q8 := qSameZ 100000 10 (Nat.le_refl _) z1 h12 g1
      rw [e1] at q8
      have q9 := qNcmp 100000 8 (Nat.le_refl _) n1 n0
      have u := un_neg_small _ (cmp_range z1 z2)
      have p1 : (cmpI z1 z2 == cmpI z1 z2) = true := beq_self_eq_true _
      have p2 : (-cmpI z1 z2 == -cmpI z1 z2) = true := beq_self_eq_true _
      have p3 : (decide (cmpI z1 0 < 0) == b1) = true := by rw [cmp_zero, s1]; exact beq_self_eq_true _
      have eb := bool_eql 4 tk4
      have wq := qAwakeN
      simp only [zaa, zab, zac, zad, zae, zaf, zag, zah, zai, zaj, zak, zal, zam, zan, zao, zap, zaq, zar, zas, zat, zau, zav, zaw, zax, zay, zaz, zba, zbb, zbc, zbd, zbe, zbf, zbg, zbh, zbi, zbj, Nat.reduceBEq, Bool.or_self, Bool.or_false, Bool.or_true, Bool.and_true, Bool.and_false, Bool.true_and, Bool.false_and, Option.isNone_none, Option.isNone_some, Option.isSome_some, Option.isSome_none, zbk, zbl, zbm, zbn, zbo, zbp, zbq, zbr, zbs, zbt, zbu, zbv, zbw, zbx, zby, zbz, zca, zcb, zcc, zcd, zce, zcf, zcg, zch, zci, zcj, zck, zcl, zcm, zcn, zco, zcp, zcq, zcr, zcs, zct, zcu, zcv, zcw, zcx, zcy, zcz, zda, zdb, zdc, zdd, zde, zdf, Option.getD_some, Option.getD_none, zet, zeu, zev, zew, zex, zey, zez, zfa, Option.map_some, Option.map_none, Option.bind_some, List.map_cons, List.map_nil, List.cons_append, List.nil_append, ↓reduceIte, Nat.reduceEqDiff, Nat.reduceAdd, decide_true, decide_false, Bool.true_eq_false, Bool.false_eq_true, env0, List.getElem?_cons_zero, List.getElem?_cons_succ, zdg, zdh, zdi, zdj, zdk, zdl, zdm, zdn, ia22, ld31, zdo, zdp, zdq, zdr, zds, zdt, zdu, zdv, zdw, zdx, zdy, zdz, zea, zeb, zec, fa_0, fa_1, zed, bd_0, bd_2, zee, fd_1, zef, Nat.zero_add, st0_2, r1, r2, hc1, hc2, k1, k2, unA_not', Bool.not_false, Bool.not_true, o2, ext_0, ext_1, st_Z, q0, encZ_fold]
      refine forgetS (fun s => (callQ (evalFn Tryd.prog cfg0 100000 12) 19 [encZ (z1 - z2), encZ 0]).map (·, s)) (fun env s => env 2 = .ptr 2 1 0 ∧ env 3 = .ptr 3 1 0 ∧ env 6 = .bool true ∧ s 2 = ⟨1, .buf [.bool b1, encL g1 l1]⟩ ∧ s 3 = ⟨1, .buf [.bool b2, encL g2 l2]⟩) ⟨by simp only [zfa, ↓reduceIte, Nat.reduceEqDiff], by simp only [zfa, ↓reduceIte, Nat.reduceEqDiff], by simp only [zfa, ↓reduceIte, Nat.reduceEqDiff], by simp only [zfa, ↓reduceIte, Nat.reduceEqDiff], by simp only [zfa, ↓reduceIte, Nat.reduceEqDiff]⟩ ?_
      clear r1 r2 o2 q0
      intro env s ⟨i2, i3, i6, j2, j3⟩
      have q0 := qOf64 100000 9 (Nat.le_refl _) 0 (by decide) (by decide)
      simp only [zaa, zab, zac, zad, zae, zaf, zag, zah, zai, zaj, zak, zal, zam, zan, zao, zap, zaq, zar, zas, zat, zau, zav, zaw, zax, zay, zaz, zba, zbb, zbc, zbd, zbe, zbf, zbg, zbh, zbi, zbj, Nat.reduceBEq, Bool.or_self, Bool.or_false, Bool.or_true, Bool.and_true, Bool.and_false, Bool.true_and, Bool.false_and, Option.isNone_none, Option.isNone_some, Option.isSome_some, Option.isSome_none, zbk, zbl, zbm, zbn, zbo, zbp, zbq, zbr, zbs, zbt, zbu, zbv, zbw, zbx, zby, zbz, zca, zcb, zcc, zcd, zce, zcf, zcg, zch, zci, zcj, zck, zcl, zcm, zcn, zco, zcp, zcq, zcr, zcs, zct, zcu, zcv, zcw, zcx, zcy, zcz, zda, zdb, zdc, zdd, zde, zdf, Option.getD_some, Option.getD_none, zet, zeu, zev, zew, zex, zey, zez, zfa, Option.map_some, Option.map_none, Option.bind_some, List.map_cons, List.map_nil, List.cons_append, List.nil_append, ↓reduceIte, Nat.reduceEqDiff, Nat.reduceAdd, decide_true, decide_false, Bool.true_eq_false, Bool.false_eq_true, env0, List.getElem?_cons_zero, List.getElem?_cons_succ, zdg, zdh, zdi, zdj, zdk, zdl, zdm, zdn, ia22, ld31, zdo, zdp, zdq, zdr, zds, zdt, zdu, zdv, zdw, zdx, zdy, zdz, zea, zeb, zec, fa_0, fa_1, zed, bd_0, bd_2, zee, fd_1, zef, Nat.zero_add, i2, i3, i6, j2, j3, ext_0, ext_1, encZ_fold, q0, q1, q2, q3, q4, q5, q6, q7, q8, q9, u, p1, p2, p3, eb, wq]
      exact finish_b _ _ _ _ _ _ _ (by simp only [zfa, ↓reduceIte]) rfl
end Go.Ab
