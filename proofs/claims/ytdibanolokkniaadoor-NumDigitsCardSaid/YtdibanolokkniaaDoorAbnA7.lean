/- Shifts of numbers, however far. Conditions: numbers that are shown. -/
import Derived.Test.YtdibanolokkniaaDoorAbnA7a
namespace Go.Ab
open Go.Proofs
set_option maxRecDepth 100000
set_option linter.unusedSimpArgs false

set_option maxHeartbeats 8000000 in
theorem shift_eq (n d : Nat) (hn : 100000 ≤ n) (g g' : Gk) (z z' : Int) (hlt : z.natAbs < B ^ 12) (hlt' : z'.natAbs < B ^ 12) (back : Bool) : evalFn Tryd.prog cfg0 n (d+5) 42 [.tree (canA g z), .tree (canA g' z'), .tree (.bool back)] = some (.tree (madeV (shZ z (if back = true then -z' else z'))), [[], [], []]) := by
  by_cases hnear : z ≠ 0 ∧ z'.natAbs ≤ 10000
  · exact shift_near n d hn g g' z z' hlt hlt' back hnear.1 hnear.2
  rw [evalFn_go _ Tryd.func42 (by unfold Tryd.f42; rfl) (by unfold Tryd.f42; decide) (Nat.le_of_ble_eq_true (by unfold Tryd.f42; rfl)) (by kernel_rfl)]
  rw [lessK]
  have c1 := fun D s => cInt n (d + 1) hn (isN_can g' z' hlt') D s
  have en := bool_neq 4 tk4
  generalize hlb : (!(decide (z' < 0) == back)) = lb
  by_cases h0 : z = 0
  · have p0 : (((digs z.natAbs).length : Int) == 0) = true := by rw [h0]; simp [digs_0]
    have hm : madeV (shZ z (if lb = true then -(z'.natAbs : Int) else (z'.natAbs : Int))) = .tup [encZ 0, .bool true] := by rw [h0, shZ_0, madeV_fit (Nat.pow_pos (by decide))]
    rw [hm, encZ_0]
    cases hi : isI64 z' with
    | false =>
      rw [intZ_no hi] at c1
      simp only [zaa, zab, zac, zad, zae, zaf, zag, zah, zai, zaj, zak, zal, zam, zan, zao, zap, zaq, zar, zas, zat, zau, zav, zaw, zax, zay, zaz, zba, zbb, zbc, zbd, zbe, zbf, zbg, zbh, zbi, zbj, Nat.reduceBEq, Bool.or_self, Bool.or_false, Bool.or_true, Bool.and_true, Bool.and_false, Bool.true_and, Bool.false_and, Option.isNone_none, Option.isNone_some, Option.isSome_some, Option.isSome_none, zbk, zbl, zbm, zbn, zbo, zbp, zbq, zbr, zbs, zbt, zbu, zbv, zbw, zbx, zby, zbz, zca, zcb, zcc, zcd, zce, zcf, zcg, zch, zci, zcj, zck, zcl, zcm, zcn, zco, zcp, zcq, zcr, zcs, zct, zcu, zcv, zcw, zcx, zcy, zcz, zda, zdb, zdc, zdd, zde, zdf, Option.getD_some, Option.getD_none, zet, zeu, zev, zew, zex, zey, zez, zfa, Option.map_some, Option.map_none, Option.bind_some, List.map_cons, List.map_nil, List.cons_append, List.nil_append, ↓reduceIte, Nat.reduceEqDiff, Nat.reduceAdd, decide_true, decide_false, Bool.true_eq_false, Bool.false_eq_true, env0, List.getElem?_cons_zero, List.getElem?_cons_succ, zdg, zdh, zdi, zdj, zdk, zdl, zdm, zdn, ia22, ld31, zdo, zdp, zdq, zdr, zds, zdt, zdu, zdv, zdw, zdx, zdy, zdz, zea, zeb, zec, fa_0, fa_1, zed, bd_0, bd_2, zee, fd_1, zef, Nat.zero_add, st0_3', c1, en, hlb, ext_0, ext_1, p0]
      exact finish_ct _ _ 6 6 1 _ _ _ _ _ _ _ (by simp only [zfa, ↓reduceIte, Nat.reduceEqDiff]) (by simp only [zfa, ↓reduceIte, Nat.reduceEqDiff]) (by simp only [zfa, ↓reduceIte, Nat.reduceEqDiff]) rfl
    | true =>
      rw [intZ_is hi] at c1
      simp only [zaa, zab, zac, zad, zae, zaf, zag, zah, zai, zaj, zak, zal, zam, zan, zao, zap, zaq, zar, zas, zat, zau, zav, zaw, zax, zay, zaz, zba, zbb, zbc, zbd, zbe, zbf, zbg, zbh, zbi, zbj, Nat.reduceBEq, Bool.or_self, Bool.or_false, Bool.or_true, Bool.and_true, Bool.and_false, Bool.true_and, Bool.false_and, Option.isNone_none, Option.isNone_some, Option.isSome_some, Option.isSome_none, zbk, zbl, zbm, zbn, zbo, zbp, zbq, zbr, zbs, zbt, zbu, zbv, zbw, zbx, zby, zbz, zca, zcb, zcc, zcd, zce, zcf, zcg, zch, zci, zcj, zck, zcl, zcm, zcn, zco, zcp, zcq, zcr, zcs, zct, zcu, zcv, zcw, zcx, zcy, zcz, zda, zdb, zdc, zdd, zde, zdf, Option.getD_some, Option.getD_none, zet, zeu, zev, zew, zex, zey, zez, zfa, Option.map_some, Option.map_none, Option.bind_some, List.map_cons, List.map_nil, List.cons_append, List.nil_append, ↓reduceIte, Nat.reduceEqDiff, Nat.reduceAdd, decide_true, decide_false, Bool.true_eq_false, Bool.false_eq_true, env0, List.getElem?_cons_zero, List.getElem?_cons_succ, zdg, zdh, zdi, zdj, zdk, zdl, zdm, zdn, ia22, ld31, zdo, zdp, zdq, zdr, zds, zdt, zdu, zdv, zdw, zdx, zdy, zdz, zea, zeb, zec, fa_0, fa_1, zed, bd_0, bd_2, zee, fd_1, zef, Nat.zero_add, st0_3', c1, en, hlb, ext_0, ext_1, p0]
      exact finish_ct _ _ 6 6 1 _ _ _ _ _ _ _ (by simp only [zfa, ↓reduceIte, Nat.reduceEqDiff]) (by simp only [zfa, ↓reduceIte, Nat.reduceEqDiff]) (by simp only [zfa, ↓reduceIte, Nat.reduceEqDiff]) rfl
  have p0 : (((digs z.natAbs).length : Int) == 0) = false := by
    rw [beq_eq_false_iff_ne]
    intro h
    have := (digs_len0 z.natAbs).mp (by omega)
    omega
  have cm1 := fun D s => cOf64 n (d + 1) hn (-1) (by decide) (by decide) D s
  have hnab : ∀ x : Int, x.natAbs ≤ 10000 ↔ -10000 ≤ x ∧ x ≤ 10000 := fun x => by omega
  cases hi : isI64 z' with
  | false =>
    rw [intZ_no hi] at c1
    have hni : ¬ (-9223372036854775808 ≤ z' ∧ z' < 9223372036854775808) := fun h => by
      have := (isI64_iff z').mpr h; rw [hi] at this; cases this
    have hN : 10000 < z'.natAbs := by omega
    cases lb with
    | true =>
      have hm := far_down z (-(z'.natAbs : Int)) hlt (by omega)
      simp only [if_true]
      rw [hm]
      by_cases ha : z < 0
      · rw [if_pos ha]
        simp only [zaa, zab, zac, zad, zae, zaf, zag, zah, zai, zaj, zak, zal, zam, zan, zao, zap, zaq, zar, zas, zat, zau, zav, zaw, zax, zay, zaz, zba, zbb, zbc, zbd, zbe, zbf, zbg, zbh, zbi, zbj, Nat.reduceBEq, Bool.or_self, Bool.or_false, Bool.or_true, Bool.and_true, Bool.and_false, Bool.true_and, Bool.false_and, Option.isNone_none, Option.isNone_some, Option.isSome_some, Option.isSome_none, zbk, zbl, zbm, zbn, zbo, zbp, zbq, zbr, zbs, zbt, zbu, zbv, zbw, zbx, zby, zbz, zca, zcb, zcc, zcd, zce, zcf, zcg, zch, zci, zcj, zck, zcl, zcm, zcn, zco, zcp, zcq, zcr, zcs, zct, zcu, zcv, zcw, zcx, zcy, zcz, zda, zdb, zdc, zdd, zde, zdf, Option.getD_some, Option.getD_none, zet, zeu, zev, zew, zex, zey, zez, zfa, Option.map_some, Option.map_none, Option.bind_some, List.map_cons, List.map_nil, List.cons_append, List.nil_append, ↓reduceIte, Nat.reduceEqDiff, Nat.reduceAdd, decide_true, decide_false, Bool.true_eq_false, Bool.false_eq_true, env0, List.getElem?_cons_zero, List.getElem?_cons_succ, zdg, zdh, zdi, zdj, zdk, zdl, zdm, zdn, ia22, ld31, zdo, zdp, zdq, zdr, zds, zdt, zdu, zdv, zdw, zdx, zdy, zdz, zea, zeb, zec, fa_0, fa_1, zed, bd_0, bd_2, zee, fd_1, zef, Nat.zero_add, st0_3', c1, en, hlb, ext_0, ext_1, p0, unA_not', Bool.not_true, Bool.not_false, ha, cm1, st_Z, Bool.false_eq_true]
        exact finish_ct _ _ 6 6 1 _ _ _ _ _ _ _ (by simp only [zfa, ↓reduceIte, Nat.reduceEqDiff]) (by simp only [zfa, ↓reduceIte, Nat.reduceEqDiff]) (by simp only [zfa, ↓reduceIte, Nat.reduceEqDiff]) rfl
      · rw [if_neg ha, encZ_0]
        simp only [zaa, zab, zac, zad, zae, zaf, zag, zah, zai, zaj, zak, zal, zam, zan, zao, zap, zaq, zar, zas, zat, zau, zav, zaw, zax, zay, zaz, zba, zbb, zbc, zbd, zbe, zbf, zbg, zbh, zbi, zbj, Nat.reduceBEq, Bool.or_self, Bool.or_false, Bool.or_true, Bool.and_true, Bool.and_false, Bool.true_and, Bool.false_and, Option.isNone_none, Option.isNone_some, Option.isSome_some, Option.isSome_none, zbk, zbl, zbm, zbn, zbo, zbp, zbq, zbr, zbs, zbt, zbu, zbv, zbw, zbx, zby, zbz, zca, zcb, zcc, zcd, zce, zcf, zcg, zch, zci, zcj, zck, zcl, zcm, zcn, zco, zcp, zcq, zcr, zcs, zct, zcu, zcv, zcw, zcx, zcy, zcz, zda, zdb, zdc, zdd, zde, zdf, Option.getD_some, Option.getD_none, zet, zeu, zev, zew, zex, zey, zez, zfa, Option.map_some, Option.map_none, Option.bind_some, List.map_cons, List.map_nil, List.cons_append, List.nil_append, ↓reduceIte, Nat.reduceEqDiff, Nat.reduceAdd, decide_true, decide_false, Bool.true_eq_false, Bool.false_eq_true, env0, List.getElem?_cons_zero, List.getElem?_cons_succ, zdg, zdh, zdi, zdj, zdk, zdl, zdm, zdn, ia22, ld31, zdo, zdp, zdq, zdr, zds, zdt, zdu, zdv, zdw, zdx, zdy, zdz, zea, zeb, zec, fa_0, fa_1, zed, bd_0, bd_2, zee, fd_1, zef, Nat.zero_add, st0_3', c1, en, hlb, ext_0, ext_1, p0, unA_not', Bool.not_true, Bool.not_false, ha, Bool.false_eq_true]
        exact finish_ct _ _ 6 6 1 _ _ _ _ _ _ _ (by simp only [zfa, ↓reduceIte, Nat.reduceEqDiff]) (by simp only [zfa, ↓reduceIte, Nat.reduceEqDiff]) (by simp only [zfa, ↓reduceIte, Nat.reduceEqDiff]) rfl
    | false =>
      have hm := far_up z (z'.natAbs : Int) h0 hlt (by omega)
      simp only [Bool.false_eq_true, if_false]
      rw [hm, encZ_0]
      simp only [zaa, zab, zac, zad, zae, zaf, zag, zah, zai, zaj, zak, zal, zam, zan, zao, zap, zaq, zar, zas, zat, zau, zav, zaw, zax, zay, zaz, zba, zbb, zbc, zbd, zbe, zbf, zbg, zbh, zbi, zbj, Nat.reduceBEq, Bool.or_self, Bool.or_false, Bool.or_true, Bool.and_true, Bool.and_false, Bool.true_and, Bool.false_and, Option.isNone_none, Option.isNone_some, Option.isSome_some, Option.isSome_none, zbk, zbl, zbm, zbn, zbo, zbp, zbq, zbr, zbs, zbt, zbu, zbv, zbw, zbx, zby, zbz, zca, zcb, zcc, zcd, zce, zcf, zcg, zch, zci, zcj, zck, zcl, zcm, zcn, zco, zcp, zcq, zcr, zcs, zct, zcu, zcv, zcw, zcx, zcy, zcz, zda, zdb, zdc, zdd, zde, zdf, Option.getD_some, Option.getD_none, zet, zeu, zev, zew, zex, zey, zez, zfa, Option.map_some, Option.map_none, Option.bind_some, List.map_cons, List.map_nil, List.cons_append, List.nil_append, ↓reduceIte, Nat.reduceEqDiff, Nat.reduceAdd, decide_true, decide_false, Bool.true_eq_false, Bool.false_eq_true, env0, List.getElem?_cons_zero, List.getElem?_cons_succ, zdg, zdh, zdi, zdj, zdk, zdl, zdm, zdn, ia22, ld31, zdo, zdp, zdq, zdr, zds, zdt, zdu, zdv, zdw, zdx, zdy, zdz, zea, zeb, zec, fa_0, fa_1, zed, bd_0, bd_2, zee, fd_1, zef, Nat.zero_add, st0_3', c1, en, hlb, ext_0, ext_1, p0, unA_not', Bool.not_true, Bool.not_false, Bool.false_eq_true]
      exact finish_ct _ _ 6 6 1 _ _ _ _ _ _ _ (by simp only [zfa, ↓reduceIte, Nat.reduceEqDiff]) (by simp only [zfa, ↓reduceIte, Nat.reduceEqDiff]) (by simp only [zfa, ↓reduceIte, Nat.reduceEqDiff]) rfl
  | true =>
    rw [intZ_is hi] at c1
    have hii := (isI64_iff z').mp hi
    by_cases hbig : z' > 10000
    · have hX : True := trivial
      have hN : 10000 < z'.natAbs := by omega
      cases lb with
      | true =>
        have hm := far_down z (-(z'.natAbs : Int)) hlt (by omega)
        simp only [if_true]
        rw [hm]
        by_cases ha : z < 0
        · rw [if_pos ha]
          simp only [zaa, zab, zac, zad, zae, zaf, zag, zah, zai, zaj, zak, zal, zam, zan, zao, zap, zaq, zar, zas, zat, zau, zav, zaw, zax, zay, zaz, zba, zbb, zbc, zbd, zbe, zbf, zbg, zbh, zbi, zbj, Nat.reduceBEq, Bool.or_self, Bool.or_false, Bool.or_true, Bool.and_true, Bool.and_false, Bool.true_and, Bool.false_and, Option.isNone_none, Option.isNone_some, Option.isSome_some, Option.isSome_none, zbk, zbl, zbm, zbn, zbo, zbp, zbq, zbr, zbs, zbt, zbu, zbv, zbw, zbx, zby, zbz, zca, zcb, zcc, zcd, zce, zcf, zcg, zch, zci, zcj, zck, zcl, zcm, zcn, zco, zcp, zcq, zcr, zcs, zct, zcu, zcv, zcw, zcx, zcy, zcz, zda, zdb, zdc, zdd, zde, zdf, Option.getD_some, Option.getD_none, zet, zeu, zev, zew, zex, zey, zez, zfa, Option.map_some, Option.map_none, Option.bind_some, List.map_cons, List.map_nil, List.cons_append, List.nil_append, ↓reduceIte, Nat.reduceEqDiff, Nat.reduceAdd, decide_true, decide_false, Bool.true_eq_false, Bool.false_eq_true, env0, List.getElem?_cons_zero, List.getElem?_cons_succ, zdg, zdh, zdi, zdj, zdk, zdl, zdm, zdn, ia22, ld31, zdo, zdp, zdq, zdr, zds, zdt, zdu, zdv, zdw, zdx, zdy, zdz, zea, zeb, zec, fa_0, fa_1, zed, bd_0, bd_2, zee, fd_1, zef, Nat.zero_add, st0_3', c1, en, hlb, ext_0, ext_1, p0, unA_not', Bool.not_true, Bool.not_false, ha, cm1, st_Z, hbig]
          exact finish_ct _ _ 6 6 1 _ _ _ _ _ _ _ (by simp only [zfa, ↓reduceIte, Nat.reduceEqDiff]) (by simp only [zfa, ↓reduceIte, Nat.reduceEqDiff]) (by simp only [zfa, ↓reduceIte, Nat.reduceEqDiff]) rfl
        · rw [if_neg ha, encZ_0]
          simp only [zaa, zab, zac, zad, zae, zaf, zag, zah, zai, zaj, zak, zal, zam, zan, zao, zap, zaq, zar, zas, zat, zau, zav, zaw, zax, zay, zaz, zba, zbb, zbc, zbd, zbe, zbf, zbg, zbh, zbi, zbj, Nat.reduceBEq, Bool.or_self, Bool.or_false, Bool.or_true, Bool.and_true, Bool.and_false, Bool.true_and, Bool.false_and, Option.isNone_none, Option.isNone_some, Option.isSome_some, Option.isSome_none, zbk, zbl, zbm, zbn, zbo, zbp, zbq, zbr, zbs, zbt, zbu, zbv, zbw, zbx, zby, zbz, zca, zcb, zcc, zcd, zce, zcf, zcg, zch, zci, zcj, zck, zcl, zcm, zcn, zco, zcp, zcq, zcr, zcs, zct, zcu, zcv, zcw, zcx, zcy, zcz, zda, zdb, zdc, zdd, zde, zdf, Option.getD_some, Option.getD_none, zet, zeu, zev, zew, zex, zey, zez, zfa, Option.map_some, Option.map_none, Option.bind_some, List.map_cons, List.map_nil, List.cons_append, List.nil_append, ↓reduceIte, Nat.reduceEqDiff, Nat.reduceAdd, decide_true, decide_false, Bool.true_eq_false, Bool.false_eq_true, env0, List.getElem?_cons_zero, List.getElem?_cons_succ, zdg, zdh, zdi, zdj, zdk, zdl, zdm, zdn, ia22, ld31, zdo, zdp, zdq, zdr, zds, zdt, zdu, zdv, zdw, zdx, zdy, zdz, zea, zeb, zec, fa_0, fa_1, zed, bd_0, bd_2, zee, fd_1, zef, Nat.zero_add, st0_3', c1, en, hlb, ext_0, ext_1, p0, unA_not', Bool.not_true, Bool.not_false, ha, hbig]
          exact finish_ct _ _ 6 6 1 _ _ _ _ _ _ _ (by simp only [zfa, ↓reduceIte, Nat.reduceEqDiff]) (by simp only [zfa, ↓reduceIte, Nat.reduceEqDiff]) (by simp only [zfa, ↓reduceIte, Nat.reduceEqDiff]) rfl
      | false =>
        have hm := far_up z (z'.natAbs : Int) h0 hlt (by omega)
        simp only [Bool.false_eq_true, if_false]
        rw [hm, encZ_0]
        simp only [zaa, zab, zac, zad, zae, zaf, zag, zah, zai, zaj, zak, zal, zam, zan, zao, zap, zaq, zar, zas, zat, zau, zav, zaw, zax, zay, zaz, zba, zbb, zbc, zbd, zbe, zbf, zbg, zbh, zbi, zbj, Nat.reduceBEq, Bool.or_self, Bool.or_false, Bool.or_true, Bool.and_true, Bool.and_false, Bool.true_and, Bool.false_and, Option.isNone_none, Option.isNone_some, Option.isSome_some, Option.isSome_none, zbk, zbl, zbm, zbn, zbo, zbp, zbq, zbr, zbs, zbt, zbu, zbv, zbw, zbx, zby, zbz, zca, zcb, zcc, zcd, zce, zcf, zcg, zch, zci, zcj, zck, zcl, zcm, zcn, zco, zcp, zcq, zcr, zcs, zct, zcu, zcv, zcw, zcx, zcy, zcz, zda, zdb, zdc, zdd, zde, zdf, Option.getD_some, Option.getD_none, zet, zeu, zev, zew, zex, zey, zez, zfa, Option.map_some, Option.map_none, Option.bind_some, List.map_cons, List.map_nil, List.cons_append, List.nil_append, ↓reduceIte, Nat.reduceEqDiff, Nat.reduceAdd, decide_true, decide_false, Bool.true_eq_false, Bool.false_eq_true, env0, List.getElem?_cons_zero, List.getElem?_cons_succ, zdg, zdh, zdi, zdj, zdk, zdl, zdm, zdn, ia22, ld31, zdo, zdp, zdq, zdr, zds, zdt, zdu, zdv, zdw, zdx, zdy, zdz, zea, zeb, zec, fa_0, fa_1, zed, bd_0, bd_2, zee, fd_1, zef, Nat.zero_add, st0_3', c1, en, hlb, ext_0, ext_1, p0, unA_not', Bool.not_true, Bool.not_false, hbig]
        exact finish_ct _ _ 6 6 1 _ _ _ _ _ _ _ (by simp only [zfa, ↓reduceIte, Nat.reduceEqDiff]) (by simp only [zfa, ↓reduceIte, Nat.reduceEqDiff]) (by simp only [zfa, ↓reduceIte, Nat.reduceEqDiff]) rfl
    by_cases hsm : z' < -10000
    · have hX : True := trivial
      have hN : 10000 < z'.natAbs := by omega
      cases lb with
      | true =>
        have hm := far_down z (-(z'.natAbs : Int)) hlt (by omega)
        simp only [if_true]
        rw [hm]
        by_cases ha : z < 0
        · rw [if_pos ha]
          simp only [zaa, zab, zac, zad, zae, zaf, zag, zah, zai, zaj, zak, zal, zam, zan, zao, zap, zaq, zar, zas, zat, zau, zav, zaw, zax, zay, zaz, zba, zbb, zbc, zbd, zbe, zbf, zbg, zbh, zbi, zbj, Nat.reduceBEq, Bool.or_self, Bool.or_false, Bool.or_true, Bool.and_true, Bool.and_false, Bool.true_and, Bool.false_and, Option.isNone_none, Option.isNone_some, Option.isSome_some, Option.isSome_none, zbk, zbl, zbm, zbn, zbo, zbp, zbq, zbr, zbs, zbt, zbu, zbv, zbw, zbx, zby, zbz, zca, zcb, zcc, zcd, zce, zcf, zcg, zch, zci, zcj, zck, zcl, zcm, zcn, zco, zcp, zcq, zcr, zcs, zct, zcu, zcv, zcw, zcx, zcy, zcz, zda, zdb, zdc, zdd, zde, zdf, Option.getD_some, Option.getD_none, zet, zeu, zev, zew, zex, zey, zez, zfa, Option.map_some, Option.map_none, Option.bind_some, List.map_cons, List.map_nil, List.cons_append, List.nil_append, ↓reduceIte, Nat.reduceEqDiff, Nat.reduceAdd, decide_true, decide_false, Bool.true_eq_false, Bool.false_eq_true, env0, List.getElem?_cons_zero, List.getElem?_cons_succ, zdg, zdh, zdi, zdj, zdk, zdl, zdm, zdn, ia22, ld31, zdo, zdp, zdq, zdr, zds, zdt, zdu, zdv, zdw, zdx, zdy, zdz, zea, zeb, zec, fa_0, fa_1, zed, bd_0, bd_2, zee, fd_1, zef, Nat.zero_add, st0_3', c1, en, hlb, ext_0, ext_1, p0, unA_not', Bool.not_true, Bool.not_false, ha, cm1, st_Z, hbig, hsm]
          exact finish_ct _ _ 6 6 1 _ _ _ _ _ _ _ (by simp only [zfa, ↓reduceIte, Nat.reduceEqDiff]) (by simp only [zfa, ↓reduceIte, Nat.reduceEqDiff]) (by simp only [zfa, ↓reduceIte, Nat.reduceEqDiff]) rfl
        · rw [if_neg ha, encZ_0]
          simp only [zaa, zab, zac, zad, zae, zaf, zag, zah, zai, zaj, zak, zal, zam, zan, zao, zap, zaq, zar, zas, zat, zau, zav, zaw, zax, zay, zaz, zba, zbb, zbc, zbd, zbe, zbf, zbg, zbh, zbi, zbj, Nat.reduceBEq, Bool.or_self, Bool.or_false, Bool.or_true, Bool.and_true, Bool.and_false, Bool.true_and, Bool.false_and, Option.isNone_none, Option.isNone_some, Option.isSome_some, Option.isSome_none, zbk, zbl, zbm, zbn, zbo, zbp, zbq, zbr, zbs, zbt, zbu, zbv, zbw, zbx, zby, zbz, zca, zcb, zcc, zcd, zce, zcf, zcg, zch, zci, zcj, zck, zcl, zcm, zcn, zco, zcp, zcq, zcr, zcs, zct, zcu, zcv, zcw, zcx, zcy, zcz, zda, zdb, zdc, zdd, zde, zdf, Option.getD_some, Option.getD_none, zet, zeu, zev, zew, zex, zey, zez, zfa, Option.map_some, Option.map_none, Option.bind_some, List.map_cons, List.map_nil, List.cons_append, List.nil_append, ↓reduceIte, Nat.reduceEqDiff, Nat.reduceAdd, decide_true, decide_false, Bool.true_eq_false, Bool.false_eq_true, env0, List.getElem?_cons_zero, List.getElem?_cons_succ, zdg, zdh, zdi, zdj, zdk, zdl, zdm, zdn, ia22, ld31, zdo, zdp, zdq, zdr, zds, zdt, zdu, zdv, zdw, zdx, zdy, zdz, zea, zeb, zec, fa_0, fa_1, zed, bd_0, bd_2, zee, fd_1, zef, Nat.zero_add, st0_3', c1, en, hlb, ext_0, ext_1, p0, unA_not', Bool.not_true, Bool.not_false, ha, hbig, hsm]
          exact finish_ct _ _ 6 6 1 _ _ _ _ _ _ _ (by simp only [zfa, ↓reduceIte, Nat.reduceEqDiff]) (by simp only [zfa, ↓reduceIte, Nat.reduceEqDiff]) (by simp only [zfa, ↓reduceIte, Nat.reduceEqDiff]) rfl
      | false =>
        have hm := far_up z (z'.natAbs : Int) h0 hlt (by omega)
        simp only [Bool.false_eq_true, if_false]
        rw [hm, encZ_0]
        simp only [zaa, zab, zac, zad, zae, zaf, zag, zah, zai, zaj, zak, zal, zam, zan, zao, zap, zaq, zar, zas, zat, zau, zav, zaw, zax, zay, zaz, zba, zbb, zbc, zbd, zbe, zbf, zbg, zbh, zbi, zbj, Nat.reduceBEq, Bool.or_self, Bool.or_false, Bool.or_true, Bool.and_true, Bool.and_false, Bool.true_and, Bool.false_and, Option.isNone_none, Option.isNone_some, Option.isSome_some, Option.isSome_none, zbk, zbl, zbm, zbn, zbo, zbp, zbq, zbr, zbs, zbt, zbu, zbv, zbw, zbx, zby, zbz, zca, zcb, zcc, zcd, zce, zcf, zcg, zch, zci, zcj, zck, zcl, zcm, zcn, zco, zcp, zcq, zcr, zcs, zct, zcu, zcv, zcw, zcx, zcy, zcz, zda, zdb, zdc, zdd, zde, zdf, Option.getD_some, Option.getD_none, zet, zeu, zev, zew, zex, zey, zez, zfa, Option.map_some, Option.map_none, Option.bind_some, List.map_cons, List.map_nil, List.cons_append, List.nil_append, ↓reduceIte, Nat.reduceEqDiff, Nat.reduceAdd, decide_true, decide_false, Bool.true_eq_false, Bool.false_eq_true, env0, List.getElem?_cons_zero, List.getElem?_cons_succ, zdg, zdh, zdi, zdj, zdk, zdl, zdm, zdn, ia22, ld31, zdo, zdp, zdq, zdr, zds, zdt, zdu, zdv, zdw, zdx, zdy, zdz, zea, zeb, zec, fa_0, fa_1, zed, bd_0, bd_2, zee, fd_1, zef, Nat.zero_add, st0_3', c1, en, hlb, ext_0, ext_1, p0, unA_not', Bool.not_true, Bool.not_false, hbig, hsm]
        exact finish_ct _ _ 6 6 1 _ _ _ _ _ _ _ (by simp only [zfa, ↓reduceIte, Nat.reduceEqDiff]) (by simp only [zfa, ↓reduceIte, Nat.reduceEqDiff]) (by simp only [zfa, ↓reduceIte, Nat.reduceEqDiff]) rfl
    exact absurd ⟨h0, by omega⟩ hnear
end Go.Ab
