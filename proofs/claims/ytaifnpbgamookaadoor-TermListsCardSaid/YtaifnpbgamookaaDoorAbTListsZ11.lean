/- Several texts put together: AbtT24, AbtT25, AbtLawTLists. Conditions: as each part says. -/
import Derived.Test.YtaifnpbgamookaaDoorAbTListsZ10
import Derived.Test.YtaifnpbgamookaaDoorAbTListsZ08
/- How many words a term takes. Conditions: terms that are lean. -/
namespace Go.Ab
open Go.Proofs
set_option maxRecDepth 100000
set_option linter.unusedSimpArgs false

def smallB (z : Int) : Bool := decide (z ≥ -576460752303423488) && decide (z < 576460752303423488)
theorem small_eq (n d : Nat) (hn : 100000 ≤ n) (b : Bool) (g : Gk) (l : List Nat) (hL : Limbs l) : evalFn Tryd.prog cfg0 n (d+4) 58 [.tree (encA b g l)] = some (.tree (.bool (smallB (numZ b l))), [[]]) := by
  rw [evalFn_go _ Tryd.func58 (by unfold Tryd.f58; rfl) (by unfold Tryd.f58; decide) (Nat.le_of_ble_eq_true (by unfold Tryd.f58; rfl)) (by kernel_rfl)]
  have hw : IsN (encA b g l) (numZ b l) := ⟨b, g, l, rfl, hL, rfl⟩
  generalize numZ b l = z at *
  have c1 := fun D st => cInt n d hn hw D st
  simp only [encA] at c1
  unfold intZ at c1
  by_cases h : isI64 z = true
  · simp only [h, ↓reduceIte] at c1
    by_cases h1 : z ≥ -576460752303423488
    · by_cases h2 : z < 576460752303423488
      · have hr : smallB z = true := by unfold smallB; rw [decide_eq_true h1, decide_eq_true h2]; rfl
        rw [hr]
        simp only [zaa, zab, zac, zad, zae, zaf, zag, zah, zai, zaj, zak, zal, zam, zan, zao, zap, zaq, zar, zas, zat, zau, zav, zaw, zax, zay, zaz, zba, zbb, zbc, zbd, zbe, zbf, zbg, zbh, zbi, zbj, Nat.reduceBEq, Bool.or_self, Bool.or_false, Bool.or_true, Bool.and_true, Bool.and_false, Bool.true_and, Bool.false_and, Option.isNone_none, Option.isNone_some, Option.isSome_some, Option.isSome_none, zbk, zbl, zbm, zbn, zbo, zbp, zbq, zbr, zbs, zbt, zbu, zbv, zbw, zbx, zby, zbz, zca, zcb, zcc, zcd, zce, zcf, zcg, zch, zci, zcj, zck, zcl, zcm, zcn, zco, zcp, zcq, zcr, zcs, zct, zcu, zcv, zcw, zcx, zcy, zcz, zda, zdb, zdc, zdd, zde, zdf, Option.getD_some, Option.getD_none, zet, zeu, zev, zew, zex, zey, zez, zfa, Option.map_some, Option.map_none, Option.bind_some, List.map_cons, List.map_nil, List.cons_append, List.nil_append, ↓reduceIte, Nat.reduceEqDiff, Nat.reduceAdd, decide_true, decide_false, Bool.true_eq_false, Bool.false_eq_true, env0, List.getElem?_cons_zero, List.getElem?_cons_succ, zdg, zdh, zdi, zdj, zdk, zdl, zdm, zdn, ia22, ld31, zdo, zdp, zdq, zdr, zds, zdt, zdu, zdv, zdw, zdx, zdy, zdz, zea, zeb, zec, fa_0, fa_1, zed, bd_0, bd_2, zee, fd_1, zef, Nat.zero_add, encA, c1, h1, h2]
        exact finish_b _ _ _ _ _ _ _ (by first | (simp only [zfa, ↓reduceIte, Nat.reduceEqDiff]; done) | (simp only [zfa, ↓reduceIte, Nat.reduceEqDiff]; rfl)) rfl
      · have hr : smallB z = false := by unfold smallB; rw [decide_eq_true h1, decide_eq_false h2]; rfl
        rw [hr]
        simp only [zaa, zab, zac, zad, zae, zaf, zag, zah, zai, zaj, zak, zal, zam, zan, zao, zap, zaq, zar, zas, zat, zau, zav, zaw, zax, zay, zaz, zba, zbb, zbc, zbd, zbe, zbf, zbg, zbh, zbi, zbj, Nat.reduceBEq, Bool.or_self, Bool.or_false, Bool.or_true, Bool.and_true, Bool.and_false, Bool.true_and, Bool.false_and, Option.isNone_none, Option.isNone_some, Option.isSome_some, Option.isSome_none, zbk, zbl, zbm, zbn, zbo, zbp, zbq, zbr, zbs, zbt, zbu, zbv, zbw, zbx, zby, zbz, zca, zcb, zcc, zcd, zce, zcf, zcg, zch, zci, zcj, zck, zcl, zcm, zcn, zco, zcp, zcq, zcr, zcs, zct, zcu, zcv, zcw, zcx, zcy, zcz, zda, zdb, zdc, zdd, zde, zdf, Option.getD_some, Option.getD_none, zet, zeu, zev, zew, zex, zey, zez, zfa, Option.map_some, Option.map_none, Option.bind_some, List.map_cons, List.map_nil, List.cons_append, List.nil_append, ↓reduceIte, Nat.reduceEqDiff, Nat.reduceAdd, decide_true, decide_false, Bool.true_eq_false, Bool.false_eq_true, env0, List.getElem?_cons_zero, List.getElem?_cons_succ, zdg, zdh, zdi, zdj, zdk, zdl, zdm, zdn, ia22, ld31, zdo, zdp, zdq, zdr, zds, zdt, zdu, zdv, zdw, zdx, zdy, zdz, zea, zeb, zec, fa_0, fa_1, zed, bd_0, bd_2, zee, fd_1, zef, Nat.zero_add, encA, c1, h1, h2]
        exact finish_b _ _ _ _ _ _ _ (by first | (simp only [zfa, ↓reduceIte, Nat.reduceEqDiff]; done) | (simp only [zfa, ↓reduceIte, Nat.reduceEqDiff]; rfl)) rfl
    · have hr : smallB z = false := by unfold smallB; rw [decide_eq_false h1]; rfl
      rw [hr]
      simp only [zaa, zab, zac, zad, zae, zaf, zag, zah, zai, zaj, zak, zal, zam, zan, zao, zap, zaq, zar, zas, zat, zau, zav, zaw, zax, zay, zaz, zba, zbb, zbc, zbd, zbe, zbf, zbg, zbh, zbi, zbj, Nat.reduceBEq, Bool.or_self, Bool.or_false, Bool.or_true, Bool.and_true, Bool.and_false, Bool.true_and, Bool.false_and, Option.isNone_none, Option.isNone_some, Option.isSome_some, Option.isSome_none, zbk, zbl, zbm, zbn, zbo, zbp, zbq, zbr, zbs, zbt, zbu, zbv, zbw, zbx, zby, zbz, zca, zcb, zcc, zcd, zce, zcf, zcg, zch, zci, zcj, zck, zcl, zcm, zcn, zco, zcp, zcq, zcr, zcs, zct, zcu, zcv, zcw, zcx, zcy, zcz, zda, zdb, zdc, zdd, zde, zdf, Option.getD_some, Option.getD_none, zet, zeu, zev, zew, zex, zey, zez, zfa, Option.map_some, Option.map_none, Option.bind_some, List.map_cons, List.map_nil, List.cons_append, List.nil_append, ↓reduceIte, Nat.reduceEqDiff, Nat.reduceAdd, decide_true, decide_false, Bool.true_eq_false, Bool.false_eq_true, env0, List.getElem?_cons_zero, List.getElem?_cons_succ, zdg, zdh, zdi, zdj, zdk, zdl, zdm, zdn, ia22, ld31, zdo, zdp, zdq, zdr, zds, zdt, zdu, zdv, zdw, zdx, zdy, zdz, zea, zeb, zec, fa_0, fa_1, zed, bd_0, bd_2, zee, fd_1, zef, Nat.zero_add, encA, c1, h1]
      exact finish_b _ _ _ _ _ _ _ (by first | (simp only [zfa, ↓reduceIte, Nat.reduceEqDiff]; done) | (simp only [zfa, ↓reduceIte, Nat.reduceEqDiff]; rfl)) rfl
  · have hr : smallB z = false := by
      unfold isI64 at h
      simp only [Bool.and_eq_true, decide_eq_true_eq] at h
      unfold smallB
      rw [Bool.and_eq_false_iff, decide_eq_false_iff_not, decide_eq_false_iff_not]
      omega
    rw [hr]
    simp only [if_neg h] at c1
    simp only [zaa, zab, zac, zad, zae, zaf, zag, zah, zai, zaj, zak, zal, zam, zan, zao, zap, zaq, zar, zas, zat, zau, zav, zaw, zax, zay, zaz, zba, zbb, zbc, zbd, zbe, zbf, zbg, zbh, zbi, zbj, Nat.reduceBEq, Bool.or_self, Bool.or_false, Bool.or_true, Bool.and_true, Bool.and_false, Bool.true_and, Bool.false_and, Option.isNone_none, Option.isNone_some, Option.isSome_some, Option.isSome_none, zbk, zbl, zbm, zbn, zbo, zbp, zbq, zbr, zbs, zbt, zbu, zbv, zbw, zbx, zby, zbz, zca, zcb, zcc, zcd, zce, zcf, zcg, zch, zci, zcj, zck, zcl, zcm, zcn, zco, zcp, zcq, zcr, zcs, zct, zcu, zcv, zcw, zcx, zcy, zcz, zda, zdb, zdc, zdd, zde, zdf, Option.getD_some, Option.getD_none, zet, zeu, zev, zew, zex, zey, zez, zfa, Option.map_some, Option.map_none, Option.bind_some, List.map_cons, List.map_nil, List.cons_append, List.nil_append, ↓reduceIte, Nat.reduceEqDiff, Nat.reduceAdd, decide_true, decide_false, Bool.true_eq_false, Bool.false_eq_true, env0, List.getElem?_cons_zero, List.getElem?_cons_succ, zdg, zdh, zdi, zdj, zdk, zdl, zdm, zdn, ia22, ld31, zdo, zdp, zdq, zdr, zds, zdt, zdu, zdv, zdw, zdx, zdy, zdz, zea, zeb, zec, fa_0, fa_1, zed, bd_0, bd_2, zee, fd_1, zef, Nat.zero_add, encA, c1]
    exact finish_b _ _ _ _ _ _ _ (by first | (simp only [zfa, ↓reduceIte, Nat.reduceEqDiff]; done) | (simp only [zfa, ↓reduceIte, Nat.reduceEqDiff]; rfl)) rfl
def byW (s : List UInt8) : Int := 2 + (((s.length + 7) / 8 : Nat) : Int)
theorem quo8 (k : Nat) (h : k ≤ 1000000) : binA Tryd.prog .quo 3 (.int .i64 ((k : Int) + 8 - 1)) (.int .i64 8) = some (.int .i64 (((k + 7) / 8 : Nat) : Int)) := by
  simp only [binA, intA]
  rw [if_pos trivial, if_neg (by decide), i64_wrap _ (by rw [Int.tdiv_eq_ediv_of_nonneg (by omega)]; omega) (by rw [Int.tdiv_eq_ediv_of_nonneg (by omega)]; omega), Int.tdiv_eq_ediv_of_nonneg (by omega)]
  congr 2
  omega
theorem bytes_eq (n d : Nat) (s : List UInt8) (h : s.length ≤ 1000000) : evalFn Tryd.prog cfg0 n (d+1) 59 [.tree (.str s)] = some (.tree (.int .i64 (byW s)), [[]]) := by
  rw [evalFn_go _ Tryd.func59 (by unfold Tryd.f59; rfl) (by unfold Tryd.f59; decide) (Nat.le_of_ble_eq_true (by unfold Tryd.f59; rfl)) (by kernel_rfl)]
  have f1 := i_add Tryd.prog 3 (s.length : Int) 8 (by omega) (by omega)
  have f2 := i_sub Tryd.prog 3 ((s.length : Int) + 8) 1 (by omega) (by omega)
  have f3 := quo8 s.length h
  have f4 := i_add Tryd.prog 3 2 (((s.length + 7) / 8 : Nat) : Int) (by omega) (by omega)
  simp only [zaa, zab, zac, zad, zae, zaf, zag, zah, zai, zaj, zak, zal, zam, zan, zao, zap, zaq, zar, zas, zat, zau, zav, zaw, zax, zay, zaz, zba, zbb, zbc, zbd, zbe, zbf, zbg, zbh, zbi, zbj, Nat.reduceBEq, Bool.or_self, Bool.or_false, Bool.or_true, Bool.and_true, Bool.and_false, Bool.true_and, Bool.false_and, Option.isNone_none, Option.isNone_some, Option.isSome_some, Option.isSome_none, zbk, zbl, zbm, zbn, zbo, zbp, zbq, zbr, zbs, zbt, zbu, zbv, zbw, zbx, zby, zbz, zca, zcb, zcc, zcd, zce, zcf, zcg, zch, zci, zcj, zck, zcl, zcm, zcn, zco, zcp, zcq, zcr, zcs, zct, zcu, zcv, zcw, zcx, zcy, zcz, zda, zdb, zdc, zdd, zde, zdf, Option.getD_some, Option.getD_none, zet, zeu, zev, zew, zex, zey, zez, zfa, Option.map_some, Option.map_none, Option.bind_some, List.map_cons, List.map_nil, List.cons_append, List.nil_append, ↓reduceIte, Nat.reduceEqDiff, Nat.reduceAdd, decide_true, decide_false, Bool.true_eq_false, Bool.false_eq_true, env0, List.getElem?_cons_zero, List.getElem?_cons_succ, zdg, zdh, zdi, zdj, zdk, zdl, zdm, zdn, ia22, ld31, zdo, zdp, zeg, List.toList_toArray, len9, ix9, zeh, zei, zej, zek, zel, f1, f2, f3, f4]
  exact finish_i _ _ _ _ _ _ _ (by first | (simp only [zfa, ↓reduceIte, Nat.reduceEqDiff]; done) | (simp only [zfa, ↓reduceIte, Nat.reduceEqDiff]; rfl)) rfl
def wT : T → Int
  | .mk k b _ l s _ _ ks => if k = 1 then (if smallB (numZ b l) = true then 0 else 1 + (l.length : Int)) else if k = 4 then 2 else if k = 5 then 1 + (ks.length : Int) else if k = 6 then byW s else if k = 7 then 2 + (ks.length : Int) else if k = 8 then 3 + byW s else 0
set_option maxHeartbeats 4000000 in
theorem words1_eq (n d : Nat) (hn : 100000 ≤ n) (t : T) (hb : leanT t) (hL : Limbs (limT t)) (hk : (kidsT t).length ≤ 100000000) : evalFn Tryd.prog cfg0 n (d+5) 34 [.tree (encT t)] = some (.tree (.int .i64 (wT t)), [[]]) := by
  rw [evalFn_go _ Tryd.func34 (by unfold Tryd.f34; rfl) (by unfold Tryd.f34; decide) (Nat.le_of_ble_eq_true (by unfold Tryd.f34; rfl)) (by kernel_rfl)]
  obtain ⟨k, b, lg, l, s, m, kg, ks⟩ := t
  simp only [leanT] at hb
  simp only [limT] at hL
  simp only [kidsT] at hk
  simp only [wT]
  have c1 := fun D st => callA_trees (cfg := cfg0) (d := D) (s := st) (f := 58) (vs := [encA b lg l]) rfl (small_eq n d hn b lg l hL)
  have c2 := fun D st => callA_trees (cfg := cfg0) (d := D) (s := st) (f := 59) (vs := [.str s]) rfl (bytes_eq n (d+3) s (by omega))
  simp only [encA] at c1
  have hby : 0 ≤ byW s ∧ byW s ≤ 1000 := by unfold byW; omega
  have f1 := i_add Tryd.prog 3 1 (l.length : Int) (by omega) (by omega)
  have f2 := i_add Tryd.prog 3 1 (ks.length : Int) (by omega) (by omega)
  have f3 := i_add Tryd.prog 3 2 (ks.length : Int) (by omega) (by omega)
  have f4 := i_add Tryd.prog 3 3 (byW s) (by omega) (by omega)
  by_cases k1 : k = 1
  · rw [if_pos k1]
    have q1 : (k == 1) = true := by rw [k1]; rfl
    have q4 : (k == 4) = false := by rw [k1]; rfl
    have q5 : (k == 5) = false := by rw [k1]; rfl
    have q6 : (k == 6) = false := by rw [k1]; rfl
    have q7 : (k == 7) = false := by rw [k1]; rfl
    have q8 : (k == 8) = false := by rw [k1]; rfl
    cases hs : smallB (numZ b l) with
    | true =>
      rw [hs] at c1
      simp only [zaa, zab, zac, zad, zae, zaf, zag, zah, zai, zaj, zak, zal, zam, zan, zao, zap, zaq, zar, zas, zat, zau, zav, zaw, zax, zay, zaz, zba, zbb, zbc, zbd, zbe, zbf, zbg, zbh, zbi, zbj, Nat.reduceBEq, Bool.or_self, Bool.or_false, Bool.or_true, Bool.and_true, Bool.and_false, Bool.true_and, Bool.false_and, Option.isNone_none, Option.isNone_some, Option.isSome_some, Option.isSome_none, zbk, zbl, zbm, zbn, zbo, zbp, zbq, zbr, zbs, zbt, zbu, zbv, zbw, zbx, zby, zbz, zca, zcb, zcc, zcd, zce, zcf, zcg, zch, zci, zcj, zck, zcl, zcm, zcn, zco, zcp, zcq, zcr, zcs, zct, zcu, zcv, zcw, zcx, zcy, zcz, zda, zdb, zdc, zdd, zde, zdf, Option.getD_some, Option.getD_none, zet, zeu, zev, zew, zex, zey, zez, zfa, Option.map_some, Option.map_none, Option.bind_some, List.map_cons, List.map_nil, List.cons_append, List.nil_append, ↓reduceIte, Nat.reduceEqDiff, Nat.reduceAdd, decide_true, decide_false, Bool.true_eq_false, Bool.false_eq_true, env0, List.getElem?_cons_zero, List.getElem?_cons_succ, zdg, zdh, zdi, zdj, zdk, zdl, zdm, zdn, ia22, ld31, zdo, zdp, zdq, zdr, zds, zdt, zdu, zdv, zdw, zdx, zdy, zdz, zea, zeb, zec, fa_0, fa_1, zed, bd_0, bd_2, zee, fd_1, zef, Nat.zero_add, zeg, List.toList_toArray, len9, ix9, zeh, zei, zej, zek, zel, encT, cellsT, faT_0, faT_1, faT_2, faT_4, faN_1, ldT_0, ldT_1, ldT_2, ldT_4, ldT_l, lenTk, len23, i_eqlV, unA_not', Bool.not_true, Bool.not_false, c1, q1, Nat.reduceAdd]
      exact finish_i _ _ _ _ _ _ _ (by first | (simp only [zfa, ↓reduceIte, Nat.reduceEqDiff]; done) | (simp only [zfa, ↓reduceIte, Nat.reduceEqDiff]; rfl)) rfl
    | false =>
      rw [hs] at c1
      simp only [zaa, zab, zac, zad, zae, zaf, zag, zah, zai, zaj, zak, zal, zam, zan, zao, zap, zaq, zar, zas, zat, zau, zav, zaw, zax, zay, zaz, zba, zbb, zbc, zbd, zbe, zbf, zbg, zbh, zbi, zbj, Nat.reduceBEq, Bool.or_self, Bool.or_false, Bool.or_true, Bool.and_true, Bool.and_false, Bool.true_and, Bool.false_and, Option.isNone_none, Option.isNone_some, Option.isSome_some, Option.isSome_none, zbk, zbl, zbm, zbn, zbo, zbp, zbq, zbr, zbs, zbt, zbu, zbv, zbw, zbx, zby, zbz, zca, zcb, zcc, zcd, zce, zcf, zcg, zch, zci, zcj, zck, zcl, zcm, zcn, zco, zcp, zcq, zcr, zcs, zct, zcu, zcv, zcw, zcx, zcy, zcz, zda, zdb, zdc, zdd, zde, zdf, Option.getD_some, Option.getD_none, zet, zeu, zev, zew, zex, zey, zez, zfa, Option.map_some, Option.map_none, Option.bind_some, List.map_cons, List.map_nil, List.cons_append, List.nil_append, ↓reduceIte, Nat.reduceEqDiff, Nat.reduceAdd, decide_true, decide_false, Bool.true_eq_false, Bool.false_eq_true, env0, List.getElem?_cons_zero, List.getElem?_cons_succ, zdg, zdh, zdi, zdj, zdk, zdl, zdm, zdn, ia22, ld31, zdo, zdp, zdq, zdr, zds, zdt, zdu, zdv, zdw, zdx, zdy, zdz, zea, zeb, zec, fa_0, fa_1, zed, bd_0, bd_2, zee, fd_1, zef, Nat.zero_add, zeg, List.toList_toArray, len9, ix9, zeh, zei, zej, zek, zel, encT, cellsT, faT_0, faT_1, faT_2, faT_4, faN_1, ldT_0, ldT_1, ldT_2, ldT_4, ldT_l, lenTk, len23, i_eqlV, unA_not', Bool.not_true, Bool.not_false, c1, q1, f1, Nat.reduceAdd]
      exact finish_i _ _ _ _ _ _ _ (by first | (simp only [zfa, ↓reduceIte, Nat.reduceEqDiff]; done) | (simp only [zfa, ↓reduceIte, Nat.reduceEqDiff]; rfl)) rfl
  rw [if_neg k1]
  have q1 : (k == 1) = false := beq_eq_false_iff_ne.mpr k1
  by_cases k4 : k = 4
  · rw [if_pos k4]
    have q4 : (k == 4) = true := by rw [k4]; rfl
    simp only [zaa, zab, zac, zad, zae, zaf, zag, zah, zai, zaj, zak, zal, zam, zan, zao, zap, zaq, zar, zas, zat, zau, zav, zaw, zax, zay, zaz, zba, zbb, zbc, zbd, zbe, zbf, zbg, zbh, zbi, zbj, Nat.reduceBEq, Bool.or_self, Bool.or_false, Bool.or_true, Bool.and_true, Bool.and_false, Bool.true_and, Bool.false_and, Option.isNone_none, Option.isNone_some, Option.isSome_some, Option.isSome_none, zbk, zbl, zbm, zbn, zbo, zbp, zbq, zbr, zbs, zbt, zbu, zbv, zbw, zbx, zby, zbz, zca, zcb, zcc, zcd, zce, zcf, zcg, zch, zci, zcj, zck, zcl, zcm, zcn, zco, zcp, zcq, zcr, zcs, zct, zcu, zcv, zcw, zcx, zcy, zcz, zda, zdb, zdc, zdd, zde, zdf, Option.getD_some, Option.getD_none, zet, zeu, zev, zew, zex, zey, zez, zfa, Option.map_some, Option.map_none, Option.bind_some, List.map_cons, List.map_nil, List.cons_append, List.nil_append, ↓reduceIte, Nat.reduceEqDiff, Nat.reduceAdd, decide_true, decide_false, Bool.true_eq_false, Bool.false_eq_true, env0, List.getElem?_cons_zero, List.getElem?_cons_succ, zdg, zdh, zdi, zdj, zdk, zdl, zdm, zdn, ia22, ld31, zdo, zdp, zdq, zdr, zds, zdt, zdu, zdv, zdw, zdx, zdy, zdz, zea, zeb, zec, fa_0, fa_1, zed, bd_0, bd_2, zee, fd_1, zef, Nat.zero_add, zeg, List.toList_toArray, len9, ix9, zeh, zei, zej, zek, zel, encT, cellsT, faT_0, ldT_0, i_eqlV, q1, q4]
    exact finish_i _ _ _ _ _ _ _ (by first | (simp only [zfa, ↓reduceIte, Nat.reduceEqDiff]; done) | (simp only [zfa, ↓reduceIte, Nat.reduceEqDiff]; rfl)) rfl
  rw [if_neg k4]
  have q4 : (k == 4) = false := beq_eq_false_iff_ne.mpr k4
  by_cases k5 : k = 5
  · rw [if_pos k5]
    have q5 : (k == 5) = true := by rw [k5]; rfl
    simp only [zaa, zab, zac, zad, zae, zaf, zag, zah, zai, zaj, zak, zal, zam, zan, zao, zap, zaq, zar, zas, zat, zau, zav, zaw, zax, zay, zaz, zba, zbb, zbc, zbd, zbe, zbf, zbg, zbh, zbi, zbj, Nat.reduceBEq, Bool.or_self, Bool.or_false, Bool.or_true, Bool.and_true, Bool.and_false, Bool.true_and, Bool.false_and, Option.isNone_none, Option.isNone_some, Option.isSome_some, Option.isSome_none, zbk, zbl, zbm, zbn, zbo, zbp, zbq, zbr, zbs, zbt, zbu, zbv, zbw, zbx, zby, zbz, zca, zcb, zcc, zcd, zce, zcf, zcg, zch, zci, zcj, zck, zcl, zcm, zcn, zco, zcp, zcq, zcr, zcs, zct, zcu, zcv, zcw, zcx, zcy, zcz, zda, zdb, zdc, zdd, zde, zdf, Option.getD_some, Option.getD_none, zet, zeu, zev, zew, zex, zey, zez, zfa, Option.map_some, Option.map_none, Option.bind_some, List.map_cons, List.map_nil, List.cons_append, List.nil_append, ↓reduceIte, Nat.reduceEqDiff, Nat.reduceAdd, decide_true, decide_false, Bool.true_eq_false, Bool.false_eq_true, env0, List.getElem?_cons_zero, List.getElem?_cons_succ, zdg, zdh, zdi, zdj, zdk, zdl, zdm, zdn, ia22, ld31, zdo, zdp, zdq, zdr, zds, zdt, zdu, zdv, zdw, zdx, zdy, zdz, zea, zeb, zec, fa_0, fa_1, zed, bd_0, bd_2, zee, fd_1, zef, Nat.zero_add, zeg, List.toList_toArray, len9, ix9, zeh, zei, zej, zek, zel, encT, cellsT, faT_0, faT_4, ldT_0, ldT_4, lenTk, i_eqlV, q1, q4, q5, f2]
    exact finish_i _ _ _ _ _ _ _ (by first | (simp only [zfa, ↓reduceIte, Nat.reduceEqDiff]; done) | (simp only [zfa, ↓reduceIte, Nat.reduceEqDiff]; rfl)) rfl
  rw [if_neg k5]
  have q5 : (k == 5) = false := beq_eq_false_iff_ne.mpr k5
  by_cases k6 : k = 6
  · rw [if_pos k6]
    have q6 : (k == 6) = true := by rw [k6]; rfl
    simp only [zaa, zab, zac, zad, zae, zaf, zag, zah, zai, zaj, zak, zal, zam, zan, zao, zap, zaq, zar, zas, zat, zau, zav, zaw, zax, zay, zaz, zba, zbb, zbc, zbd, zbe, zbf, zbg, zbh, zbi, zbj, Nat.reduceBEq, Bool.or_self, Bool.or_false, Bool.or_true, Bool.and_true, Bool.and_false, Bool.true_and, Bool.false_and, Option.isNone_none, Option.isNone_some, Option.isSome_some, Option.isSome_none, zbk, zbl, zbm, zbn, zbo, zbp, zbq, zbr, zbs, zbt, zbu, zbv, zbw, zbx, zby, zbz, zca, zcb, zcc, zcd, zce, zcf, zcg, zch, zci, zcj, zck, zcl, zcm, zcn, zco, zcp, zcq, zcr, zcs, zct, zcu, zcv, zcw, zcx, zcy, zcz, zda, zdb, zdc, zdd, zde, zdf, Option.getD_some, Option.getD_none, zet, zeu, zev, zew, zex, zey, zez, zfa, Option.map_some, Option.map_none, Option.bind_some, List.map_cons, List.map_nil, List.cons_append, List.nil_append, ↓reduceIte, Nat.reduceEqDiff, Nat.reduceAdd, decide_true, decide_false, Bool.true_eq_false, Bool.false_eq_true, env0, List.getElem?_cons_zero, List.getElem?_cons_succ, zdg, zdh, zdi, zdj, zdk, zdl, zdm, zdn, ia22, ld31, zdo, zdp, zdq, zdr, zds, zdt, zdu, zdv, zdw, zdx, zdy, zdz, zea, zeb, zec, fa_0, fa_1, zed, bd_0, bd_2, zee, fd_1, zef, Nat.zero_add, zeg, List.toList_toArray, len9, ix9, zeh, zei, zej, zek, zel, encT, cellsT, faT_0, faT_2, ldT_0, ldT_2, i_eqlV, q1, q4, q5, q6, c2]
    exact finish_i _ _ _ _ _ _ _ (by first | (simp only [zfa, ↓reduceIte, Nat.reduceEqDiff]; done) | (simp only [zfa, ↓reduceIte, Nat.reduceEqDiff]; rfl)) rfl
  rw [if_neg k6]
  have q6 : (k == 6) = false := beq_eq_false_iff_ne.mpr k6
  by_cases k7 : k = 7
  · rw [if_pos k7]
    have q7 : (k == 7) = true := by rw [k7]; rfl
    simp only [zaa, zab, zac, zad, zae, zaf, zag, zah, zai, zaj, zak, zal, zam, zan, zao, zap, zaq, zar, zas, zat, zau, zav, zaw, zax, zay, zaz, zba, zbb, zbc, zbd, zbe, zbf, zbg, zbh, zbi, zbj, Nat.reduceBEq, Bool.or_self, Bool.or_false, Bool.or_true, Bool.and_true, Bool.and_false, Bool.true_and, Bool.false_and, Option.isNone_none, Option.isNone_some, Option.isSome_some, Option.isSome_none, zbk, zbl, zbm, zbn, zbo, zbp, zbq, zbr, zbs, zbt, zbu, zbv, zbw, zbx, zby, zbz, zca, zcb, zcc, zcd, zce, zcf, zcg, zch, zci, zcj, zck, zcl, zcm, zcn, zco, zcp, zcq, zcr, zcs, zct, zcu, zcv, zcw, zcx, zcy, zcz, zda, zdb, zdc, zdd, zde, zdf, Option.getD_some, Option.getD_none, zet, zeu, zev, zew, zex, zey, zez, zfa, Option.map_some, Option.map_none, Option.bind_some, List.map_cons, List.map_nil, List.cons_append, List.nil_append, ↓reduceIte, Nat.reduceEqDiff, Nat.reduceAdd, decide_true, decide_false, Bool.true_eq_false, Bool.false_eq_true, env0, List.getElem?_cons_zero, List.getElem?_cons_succ, zdg, zdh, zdi, zdj, zdk, zdl, zdm, zdn, ia22, ld31, zdo, zdp, zdq, zdr, zds, zdt, zdu, zdv, zdw, zdx, zdy, zdz, zea, zeb, zec, fa_0, fa_1, zed, bd_0, bd_2, zee, fd_1, zef, Nat.zero_add, zeg, List.toList_toArray, len9, ix9, zeh, zei, zej, zek, zel, encT, cellsT, faT_0, faT_4, ldT_0, ldT_4, lenTk, i_eqlV, q1, q4, q5, q6, q7, f3]
    exact finish_i _ _ _ _ _ _ _ (by first | (simp only [zfa, ↓reduceIte, Nat.reduceEqDiff]; done) | (simp only [zfa, ↓reduceIte, Nat.reduceEqDiff]; rfl)) rfl
  rw [if_neg k7]
  have q7 : (k == 7) = false := beq_eq_false_iff_ne.mpr k7
  by_cases k8 : k = 8
  · rw [if_pos k8]
    have q8 : (k == 8) = true := by rw [k8]; rfl
    simp only [zaa, zab, zac, zad, zae, zaf, zag, zah, zai, zaj, zak, zal, zam, zan, zao, zap, zaq, zar, zas, zat, zau, zav, zaw, zax, zay, zaz, zba, zbb, zbc, zbd, zbe, zbf, zbg, zbh, zbi, zbj, Nat.reduceBEq, Bool.or_self, Bool.or_false, Bool.or_true, Bool.and_true, Bool.and_false, Bool.true_and, Bool.false_and, Option.isNone_none, Option.isNone_some, Option.isSome_some, Option.isSome_none, zbk, zbl, zbm, zbn, zbo, zbp, zbq, zbr, zbs, zbt, zbu, zbv, zbw, zbx, zby, zbz, zca, zcb, zcc, zcd, zce, zcf, zcg, zch, zci, zcj, zck, zcl, zcm, zcn, zco, zcp, zcq, zcr, zcs, zct, zcu, zcv, zcw, zcx, zcy, zcz, zda, zdb, zdc, zdd, zde, zdf, Option.getD_some, Option.getD_none, zet, zeu, zev, zew, zex, zey, zez, zfa, Option.map_some, Option.map_none, Option.bind_some, List.map_cons, List.map_nil, List.cons_append, List.nil_append, ↓reduceIte, Nat.reduceEqDiff, Nat.reduceAdd, decide_true, decide_false, Bool.true_eq_false, Bool.false_eq_true, env0, List.getElem?_cons_zero, List.getElem?_cons_succ, zdg, zdh, zdi, zdj, zdk, zdl, zdm, zdn, ia22, ld31, zdo, zdp, zdq, zdr, zds, zdt, zdu, zdv, zdw, zdx, zdy, zdz, zea, zeb, zec, fa_0, fa_1, zed, bd_0, bd_2, zee, fd_1, zef, Nat.zero_add, zeg, List.toList_toArray, len9, ix9, zeh, zei, zej, zek, zel, encT, cellsT, faT_0, faT_2, ldT_0, ldT_2, i_eqlV, q1, q4, q5, q6, q7, q8, c2, f4]
    exact finish_i _ _ _ _ _ _ _ (by first | (simp only [zfa, ↓reduceIte, Nat.reduceEqDiff]; done) | (simp only [zfa, ↓reduceIte, Nat.reduceEqDiff]; rfl)) rfl
  rw [if_neg k8]
  have q8 : (k == 8) = false := beq_eq_false_iff_ne.mpr k8
  simp only [zaa, zab, zac, zad, zae, zaf, zag, zah, zai, zaj, zak, zal, zam, zan, zao, zap, zaq, zar, zas, zat, zau, zav, zaw, zax, zay, zaz, zba, zbb, zbc, zbd, zbe, zbf, zbg, zbh, zbi, zbj, Nat.reduceBEq, Bool.or_self, Bool.or_false, Bool.or_true, Bool.and_true, Bool.and_false, Bool.true_and, Bool.false_and, Option.isNone_none, Option.isNone_some, Option.isSome_some, Option.isSome_none, zbk, zbl, zbm, zbn, zbo, zbp, zbq, zbr, zbs, zbt, zbu, zbv, zbw, zbx, zby, zbz, zca, zcb, zcc, zcd, zce, zcf, zcg, zch, zci, zcj, zck, zcl, zcm, zcn, zco, zcp, zcq, zcr, zcs, zct, zcu, zcv, zcw, zcx, zcy, zcz, zda, zdb, zdc, zdd, zde, zdf, Option.getD_some, Option.getD_none, zet, zeu, zev, zew, zex, zey, zez, zfa, Option.map_some, Option.map_none, Option.bind_some, List.map_cons, List.map_nil, List.cons_append, List.nil_append, ↓reduceIte, Nat.reduceEqDiff, Nat.reduceAdd, decide_true, decide_false, Bool.true_eq_false, Bool.false_eq_true, env0, List.getElem?_cons_zero, List.getElem?_cons_succ, zdg, zdh, zdi, zdj, zdk, zdl, zdm, zdn, ia22, ld31, zdo, zdp, zdq, zdr, zds, zdt, zdu, zdv, zdw, zdx, zdy, zdz, zea, zeb, zec, fa_0, fa_1, zed, bd_0, bd_2, zee, fd_1, zef, Nat.zero_add, zeg, List.toList_toArray, len9, ix9, zeh, zei, zej, zek, zel, encT, cellsT, faT_0, ldT_0, i_eqlV, q1, q4, q5, q6, q7, q8]
  exact finish_i _ _ _ _ _ _ _ (by first | (simp only [zfa, ↓reduceIte, Nat.reduceEqDiff]; done) | (simp only [zfa, ↓reduceIte, Nat.reduceEqDiff]; rfl)) rfl
mutual
def wsT : T → Int
  | .mk k b lg l s n kg ks => wT (.mk k b lg l s n kg ks) + wsK ks
def wsK : List T → Int
  | [] => 0
  | t :: r => wsT t + wsK r
end
theorem wT_rng (t : T) (hb : leanT t) : 0 ≤ wT t ∧ wT t ≤ 600 + (kidsT t).length := by
  obtain ⟨k, b, lg, l, s, m, kg, ks⟩ := t
  simp only [leanT] at hb
  simp only [wT, kidsT, byW]
  split
  · split <;> omega
  split
  · omega
  split
  · omega
  split
  · omega
  split
  · omega
  split
  · omega
  · omega
mutual
theorem wsT_rng : ∀ t : T, leanT t → 0 ≤ wsT t ∧ wsT t + 1 ≤ 602 * (nodT t : Int)
  | .mk k b lg l s m kg ks, h => by
    have h1 := wT_rng (.mk k b lg l s m kg ks) h
    simp only [leanT] at h
    have h2 := wsK_rng ks h.2.2
    simp only [wsT, nodT]
    simp only [kidsT] at h1
    omega
theorem wsK_rng : ∀ ks : List T, leanK ks → 0 ≤ wsK ks ∧ wsK ks + ks.length ≤ 602 * (nodK ks : Int)
  | [], _ => by simp only [wsK, nodK, List.length_nil]; omega
  | t :: r, h => by
    simp only [leanK] at h
    have h1 := wsT_rng t h.1
    have h2 := wsK_rng r h.2
    simp only [wsK, nodK, List.length_cons]
    omega
end
theorem wsK_app : ∀ a b : List T, wsK (a ++ b) = wsK a + wsK b
  | [], b => by simp [wsK]
  | t :: r, b => by simp only [List.cons_append, wsK, wsK_app r b]; omega
theorem leanK_app : ∀ {a b : List T}, leanK (a ++ b) → leanK a ∧ leanK b
  | [], _, h => ⟨by simp only [leanK], h⟩
  | t :: r, b, h => by
    simp only [List.cons_append, leanK] at h ⊢
    exact ⟨⟨h.1, (leanK_app h.2).1⟩, (leanK_app h.2).2⟩
theorem leanK_at : ∀ (ks : List T) (i : Nat) (t : T) (r : List T), ks.drop i = t :: r → leanK ks → leanT t
  | [], i, t, r, h, _ => by simp at h
  | a :: q, 0, t, r, h, hw => by simp only [List.drop_zero, List.cons.injEq] at h; obtain ⟨rfl, rfl⟩ := h; simp only [leanK] at hw; exact hw.1
  | a :: q, i + 1, t, r, h, hw => by simp only [leanK] at hw; exact leanK_at q i t r (by simpa using h) hw.2
set_option maxHeartbeats 8000000 in
theorem tWords_eq (n : Nat) (hn : 100000 ≤ n) (hn2 : n ≤ 1000000) : ∀ (d : Nat) (t : T), htT t ≤ d → nodT t < n → leanT t → wfT t →
    evalFn Tryd.prog cfg0 n (d+5) 17 [.tree (encT t)] = some (.tree (.int .i64 (wsT t)), [[]])
  | 0, t, hd, hnd, _, _ => by obtain ⟨k, b, lg, l, s, m, kg, ks⟩ := t; simp only [htT] at hd; omega
  | d + 1, t, hd, hnd, hle, hw => by
    have IH := tWords_eq n hn hn2 d
    have w0 := wsT_rng t hle
    have hl0 : Limbs (limT t) := by obtain ⟨k, b, lg, l, s, m, kg, ks⟩ := t; simp only [wfT] at hw; exact hw.1
    have hk0 : (kidsT t).length ≤ 100000000 := by obtain ⟨k, b, lg, l, s, m, kg, ks⟩ := t; simp only [nodT] at hnd; have := nodK_len ks; simp only [kidsT]; omega
    have hr1 := wT_rng t hle
    have cw := fun D st => callA_trees (cfg := cfg0) (d := D) (s := st) (f := 34) (vs := [encT t]) rfl (words1_eq n d hn t hle hl0 hk0)
    simp only [encT] at cw
    rw [evalFn_go _ Tryd.func17 (by unfold Tryd.f17; rfl) (by unfold Tryd.f17; decide) (Nat.le_of_ble_eq_true (by unfold Tryd.f17; rfl)) (by kernel_rfl)]
    obtain ⟨k, b, lg, l, s, m, kg, ks⟩ := t
    have hsum0 : wsT (.mk k b lg l s m kg ks) = wT (.mk k b lg l s m kg ks) + wsK ks := by simp only [wsT]
    rw [hsum0]
    rw [hsum0] at w0
    generalize wT (.mk k b lg l s m kg ks) = w1 at *
    simp only [leanT] at hle
    simp only [wfT] at hw
    simp only [htT] at hd
    simp only [nodT] at hnd w0
    have hkl := nodK_len ks
    simp only [cellsT] at cw
    simp only [zaa, zab, zac, zad, zae, zaf, zag, zah, zai, zaj, zak, zal, zam, zan, zao, zap, zaq, zar, zas, zat, zau, zav, zaw, zax, zay, zaz, zba, zbb, zbc, zbd, zbe, zbf, zbg, zbh, zbi, zbj, Nat.reduceBEq, Bool.or_self, Bool.or_false, Bool.or_true, Bool.and_true, Bool.and_false, Bool.true_and, Bool.false_and, Option.isNone_none, Option.isNone_some, Option.isSome_some, Option.isSome_none, zbk, zbl, zbm, zbn, zbo, zbp, zbq, zbr, zbs, zbt, zbu, zbv, zbw, zbx, zby, zbz, zca, zcb, zcc, zcd, zce, zcf, zcg, zch, zci, zcj, zck, zcl, zcm, zcn, zco, zcp, zcq, zcr, zcs, zct, zcu, zcv, zcw, zcx, zcy, zcz, zda, zdb, zdc, zdd, zde, zdf, Option.getD_some, Option.getD_none, zet, zeu, zev, zew, zex, zey, zez, zfa, Option.map_some, Option.map_none, Option.bind_some, List.map_cons, List.map_nil, List.cons_append, List.nil_append, ↓reduceIte, Nat.reduceEqDiff, Nat.reduceAdd, decide_true, decide_false, Bool.true_eq_false, Bool.false_eq_true, env0, List.getElem?_cons_zero, List.getElem?_cons_succ, zdq, zdr, zds, zdt, zdu, zdv, zdw, zdx, zdy, zdz, zea, zeb, zec, fa_0, fa_1, zed, bd_0, bd_2, zee, fd_1, zef, Nat.zero_add, encT, cellsT, ldT_a, cw, faT_4, ldT_4, lenTk, den_loop]
    refine loop_ends (X := Nat) (fun i env s' => env 9 = .sl (cellsK ks) ks.length (gr kg) ∧ env 10 = .int .i64 (ks.length : Int) ∧ env 11 = .int .i64 (i : Int) ∧ env 3 = .int .i64 (w1 + wsK (ks.take i)) ∧ i ≤ ks.length) (fun i => ks.length - i) (fun _ => (.tree (.int .i64 (w1 + wsK ks)), [[]])) ?_ n 0 _ _ (by omega) ⟨(by first | (simp only [zfa, ↓reduceIte, Nat.reduceEqDiff]; done) | (simp only [zfa, ↓reduceIte, Nat.reduceEqDiff]; rfl)), (by first | (simp only [zfa, ↓reduceIte, Nat.reduceEqDiff]; done) | (simp only [zfa, ↓reduceIte, Nat.reduceEqDiff]; rfl)), (by first | (simp only [zfa, ↓reduceIte, Nat.reduceEqDiff]; done) | (simp only [zfa, ↓reduceIte, Nat.reduceEqDiff]; rfl)), by simp only [List.take_zero, wsK, Int.add_zero]; exact (by first | (simp only [zfa, ↓reduceIte, Nat.reduceEqDiff]; done) | (simp only [zfa, ↓reduceIte, Nat.reduceEqDiff]; rfl)), Nat.zero_le _⟩
    rintro rr i hrr ih2 env st ⟨e9, e10, e11, e3, hi⟩
    cases hdr : ks.drop i with
    | nil =>
      have hil : i = ks.length := by have := congrArg List.length hdr; simp only [List.length_drop, List.length_nil] at this; omega
      subst hil
      rw [List.take_length] at e3
      have q1 : ¬ ((ks.length : Int) < (ks.length : Int)) := by omega
      simp only [zaa, zab, zac, zad, zae, zaf, zag, zah, zai, zaj, zak, zal, zam, zan, zao, zap, zaq, zar, zas, zat, zau, zav, zaw, zax, zay, zaz, zba, zbb, zbc, zbd, zbe, zbf, zbg, zbh, zbi, zbj, Nat.reduceBEq, Bool.or_self, Bool.or_false, Bool.or_true, Bool.and_true, Bool.and_false, Bool.true_and, Bool.false_and, Option.isNone_none, Option.isNone_some, Option.isSome_some, Option.isSome_none, zbk, zbl, zbm, zbn, zbo, zbp, zbq, zbr, zbs, zbt, zbu, zbv, zbw, zbx, zby, zbz, zca, zcb, zcc, zcd, zce, zcf, zcg, zch, zci, zcj, zck, zcl, zcm, zcn, zco, zcp, zcq, zcr, zcs, zct, zcu, zcv, zcw, zcx, zcy, zcz, zda, zdb, zdc, zdd, zde, zdf, Option.getD_some, Option.getD_none, zet, zeu, zev, zew, zex, zey, zez, zfa, Option.map_some, Option.map_none, Option.bind_some, List.map_cons, List.map_nil, List.cons_append, List.nil_append, ↓reduceIte, Nat.reduceEqDiff, Nat.reduceAdd, decide_true, decide_false, Bool.true_eq_false, Bool.false_eq_true, zdg, zdh, zdi, zdj, zdk, zdl, zdm, zdn, ia22, ld31, zdo, zdp, zdq, zdr, zds, zdt, zdu, zdv, zdw, zdx, zdy, zdz, zea, zeb, zec, fa_0, fa_1, zed, bd_0, bd_2, zee, fd_1, zef, Nat.zero_add, e9, e10, e11, e3, q1]
      exact finish_i _ _ _ _ _ _ _ (by first | (simp only [zfa, ↓reduceIte, Nat.reduceEqDiff]; done) | (simp only [zfa, ↓reduceIte, Nat.reduceEqDiff]; rfl)) rfl
    | cons kid r =>
      have hil : i < ks.length := by have := congrArg List.length hdr; simp only [List.length_drop, List.length_cons] at this; omega
      have kh := kids_ht ks i kid r hdr
      have kn := kids_nod ks i kid r hdr
      have kl := leanK_at ks i kid r hdr hle.2.2
      have kw := kids_wf ks i kid r hdr hw.2
      have ht : ks = ks.take i ++ kid :: r := by rw [← hdr, List.take_append_drop]
      have ht1 : ks.take (i + 1) = ks.take i ++ [kid] := by
        rw [List.take_add_one]
        congr 1
        have : ks[i]? = some kid := by rw [← Nat.add_zero i, ← List.getElem?_drop, hdr]; rfl
        rw [this]; rfl
      have hsum : wsK (ks.take (i + 1)) = wsK (ks.take i) + wsT kid := by
        rw [ht1, wsK_app]; simp only [wsK]; omega
      have hl1 : leanK (ks.take i ++ kid :: r) := by rw [← ht]; exact hle.2.2
      have s1 := wsK_rng _ (leanK_app hl1).1
      have s2 := wsT_rng kid kl
      have s3 : nodK ks = nodK (ks.take i) + (nodT kid + nodK r) := by
        conv => lhs; rw [ht]
        rw [nodK_app]; simp only [nodK]
      have q1 : (i : Int) < (ks.length : Int) := by omega
      have f5 := i_add Tryd.prog 3 (i : Int) 1 (by omega) (by omega)
      have f6 := i_add Tryd.prog 3 (w1 + wsK (ks.take i)) (wsT kid) (by omega) (by omega)
      have cc := fun D st => callA_trees (cfg := cfg0) (d := D) (s := st) (f := 17) (vs := [encT kid]) rfl (IH kid (by omega) (by omega) kl kw)
      simp only [encT] at cc
      have ia := fun st => ia_K st ks (gr kg) i hil
      rw [hdr] at ia
      have ld := fun st => ld_K st kid r
      simp only [encT] at ld
      simp only [zaa, zab, zac, zad, zae, zaf, zag, zah, zai, zaj, zak, zal, zam, zan, zao, zap, zaq, zar, zas, zat, zau, zav, zaw, zax, zay, zaz, zba, zbb, zbc, zbd, zbe, zbf, zbg, zbh, zbi, zbj, Nat.reduceBEq, Bool.or_self, Bool.or_false, Bool.or_true, Bool.and_true, Bool.and_false, Bool.true_and, Bool.false_and, Option.isNone_none, Option.isNone_some, Option.isSome_some, Option.isSome_none, zbk, zbl, zbm, zbn, zbo, zbp, zbq, zbr, zbs, zbt, zbu, zbv, zbw, zbx, zby, zbz, zca, zcb, zcc, zcd, zce, zcf, zcg, zch, zci, zcj, zck, zcl, zcm, zcn, zco, zcp, zcq, zcr, zcs, zct, zcu, zcv, zcw, zcx, zcy, zcz, zda, zdb, zdc, zdd, zde, zdf, Option.getD_some, Option.getD_none, zet, zeu, zev, zew, zex, zey, zez, zfa, Option.map_some, Option.map_none, Option.bind_some, List.map_cons, List.map_nil, List.cons_append, List.nil_append, ↓reduceIte, Nat.reduceEqDiff, Nat.reduceAdd, decide_true, decide_false, Bool.true_eq_false, Bool.false_eq_true, zdg, zdh, zdi, zdj, zdk, zdl, zdm, zdn, ia22, ld31, zdo, zdp, zdq, zdr, zds, zdt, zdu, zdv, zdw, zdx, zdy, zdz, zea, zeb, zec, fa_0, fa_1, zed, bd_0, bd_2, zee, fd_1, zef, Nat.zero_add, e9, e10, e11, e3, q1, ia, ld, zeroT, st_Tt, stT_6, ldT_u, f5, f6, cc]
      refine ih2 (i + 1) _ _ (by omega) rfl ⟨(by first | (simp only [zfa, ↓reduceIte, Nat.reduceEqDiff, e9]; done) | (simp only [zfa, ↓reduceIte, Nat.reduceEqDiff, e9]; rfl)), (by first | (simp only [zfa, ↓reduceIte, Nat.reduceEqDiff, e10]; done) | (simp only [zfa, ↓reduceIte, Nat.reduceEqDiff, e10]; rfl)), (by first | (simp only [zfa, ↓reduceIte, Nat.reduceEqDiff]; done) | (simp only [zfa, ↓reduceIte, Nat.reduceEqDiff]; rfl)), ?_, by omega⟩
      simp only [zfa, ↓reduceIte, Nat.reduceEqDiff]
      rw [hsum, Int.add_assoc]
end Go.Ab

/- The statement TermLists. Conditions: limbs in range; texts in range. -/
namespace Go.Ab
open Go.Proofs
set_option maxRecDepth 100000
set_option linter.unusedSimpArgs false

mutual
theorem big_wf (R : Nat) : ∀ t : T, bigT R t → wfT t
  | .mk k b lg l s m kg ks, h => by simp only [bigT] at h; simp only [wfT]; exact ⟨h.1, bigK_wf R ks h.2.2⟩
theorem bigK_wf (R : Nat) : ∀ ks : List T, bigK R ks → wfK ks
  | [], _ => by simp only [wfK]
  | t :: r, h => by simp only [bigK] at h; simp only [wfK]; exact ⟨big_wf R t h.1, bigK_wf R r h.2⟩
end
mutual
theorem same_refl : ∀ t : T, sameT t t = true
  | .mk k b lg l s m kg ks => by
    have h := sameK_refl ks
    simp only [sameT, kindT, sgnT, limT, strT, nT, kidsT, ↓reduceIte, h, decide_true, Bool.and_self]
    repeat' split
    all_goals rfl
theorem sameK_refl : ∀ ks : List T, sameK ks ks = true
  | [] => by simp only [sameK]
  | t :: r => by simp only [sameK, same_refl t, sameK_refl r, Bool.and_self]
end
mutual
theorem few_nod : ∀ t : T, leanT t → nodT t ≤ 60 → fewT 100000 t
  | .mk k b lg l s m kg ks, h, hn => by
    simp only [leanT] at h
    simp only [nodT] at hn
    have := nodK_len ks
    simp only [fewT]
    exact ⟨by omega, by omega, fewK_nod ks h.2.2 (by omega)⟩
theorem fewK_nod : ∀ ks : List T, leanK ks → nodK ks ≤ 60 → fewK 100000 ks
  | [], _, _ => by simp only [fewK]
  | t :: r, h, hn => by
    simp only [leanK] at h
    simp only [nodK] at hn
    have := nod_pos t
    simp only [fewK]
    exact ⟨few_nod t h.1 (by omega), fewK_nod r h.2 (by omega)⟩
end
theorem itT_list : ∀ (ks : List T) (r : Nat) (acc : List T), ks.length < r → itT r (listT ks nilT') acc = some (acc ++ ks)
  | [], r, acc, h => by
    obtain ⟨r', rfl⟩ : ∃ r', r = r' + 1 := ⟨r - 1, by simp at h; omega⟩
    simp [listT, itT, nilT', kindT]
  | k :: ks, r, acc, h => by
    obtain ⟨r', rfl⟩ : ∃ r', r = r' + 1 := ⟨r - 1, by simp at h; omega⟩
    have h' := itT_list ks r' (acc ++ [k]) (by simp at h; omega)
    have e : itT (r' + 1) (listT (k :: ks) nilT') acc = itT r' (listT ks nilT') (acc ++ [k]) := rfl
    rw [e, h']
    simp
def tup0 : T := .mk 5 false .n [] [] 0 .n []
theorem itT_list5 : ∀ (ks : List T) (r : Nat) (acc : List T), itT r (listT ks tup0) acc = none
  | _, 0, acc => rfl
  | [], r + 1, acc => rfl
  | k :: ks, r + 1, acc => itT_list5 ks r (acc ++ [k])
theorem items_list (ks : List T) (h : ks.length ≤ 60) : itemsT (listT ks nilT') = some ks := itT_list ks 2001 [] (by omega)
theorem items_list5 (ks : List T) : itemsT (listT ks tup0) = none := itT_list5 ks 2001 []
mutual
theorem lean_few (m : Nat) : ∀ t : T, fewT m t → 2 < m → True
  | _, _, _ => trivial
end
theorem few_listT {m : Nat} (hm : 2 < m) : ∀ (ks : List T) (t : T), fewK m ks → fewT m t → fewT m (listT ks t)
  | [], t, _, h => h
  | k :: ks, t, h, h' => by
    simp only [fewK] at h
    simp only [listT, consT, fewT, fewK, and_true, List.length_nil, List.length_cons]
    exact ⟨by omega, by omega, h.1, few_listT hm ks t h.2 h'⟩
theorem lean_listT : ∀ (ks : List T) (t : T), leanK ks → leanT t → leanT (listT ks t)
  | [], t, _, h => h
  | k :: ks, t, h, h' => by
    simp only [leanK] at h
    simp only [listT, consT, leanT, leanK, and_true, List.length_nil]
    exact ⟨by omega, by omega, h.1, lean_listT ks t h.2 h'⟩
theorem wf_listT : ∀ (ks : List T) (t : T), wfK ks → wfT t → wfT (listT ks t)
  | [], t, _, h => h
  | k :: ks, t, h, h' => by
    simp only [wfK] at h
    simp only [listT, consT, wfT, wfK, and_true]
    exact ⟨limbs_nil, h.1, wf_listT ks t h.2 h'⟩
theorem ws_list : ∀ (ks : List T) (t : T), wsT (listT ks t) = 2 * ks.length + wsK ks + wsT t
  | [], t => by simp [listT, wsK]
  | k :: ks, t => by
    have h := ws_list ks t
    have e : wsT (consT k (listT ks t)) = 2 + (wsT k + wsT (listT ks t)) := by
      simp only [consT, wsT, wsK, wT]
      rw [if_neg (by decide), if_pos trivial]
      omega
    simp only [listT, e, h, wsK, List.length_cons]
    omega
theorem lean_take {ks : List T} (h : leanK ks) (i : Nat) : leanK (ks.take i) := by
  have : ks.take i ++ ks.drop i = ks := List.take_append_drop i ks
  rw [← this] at h
  exact (leanK_app h).1
theorem leanK_snoc : ∀ {q : List T} {t : T}, leanK q → leanT t → leanK (q ++ [t])
  | [], _, _, h => by simp only [List.nil_append, leanK]; exact ⟨h, trivial⟩
  | a :: q, t, h, k => by simp only [leanK] at h; simp only [List.cons_append, leanK]; exact ⟨h.1, leanK_snoc h.2 k⟩
theorem ht_le_nod (t : T) : htT t ≤ nodT t := ht_nod t

noncomputable def codeTL : Code := (Tryd.f5.body).getD .skip
noncomputable def tl11 : Code := seqR (seqR (seqR (seqR codeTL)))
noncomputable def tl20 : Code := seqR (seqR (seqR (seqR tl11)))
abbrev tlArgs (ks : List T) (n : Int) : List Arg := [.tree (.sl (cellsK ks) ks.length .loose), .tree (.int .i64 n)]
noncomputable abbrev tlFin (ks : List T) (n : Int) : Kont := finK Tryd.prog (cfg0.keep 5) (tlArgs ks n) Tryd.f5.results
theorem finish_bb (k : Bool) (ks : List T) (n : Int) (t : Nat) (env : Env) (s : St) (hv : env t = .bool true) : finishP Tryd.prog k (tlArgs ks n) #[.tmp t] env s = some (.tree (.bool true), [[], []]) := finish_b _ _ _ _ _ _ _ hv rfl
section
variable (R : Nat) (hR : 1000000 ≤ R) (hR2 : R ≤ 9223372036854775808) (ks : List T) (hl : ks.length ≤ 60) (n : Int)
include hR hl
set_option maxHeartbeats 4000000 in
theorem tl20_eq (env : Env) (s : St) (e0 : env 0 = .sl (cellsK ks) ks.length .loose) (e1 : env 1 = .int .i64 n) : den Tryd.prog cfg0 (evalFn Tryd.prog cfg0 R 6099) R tl20 (tlFin ks n) env s = some (.tree (.bool true), [[], []]) := by
  have wa := fun D st => callA_trees (cfg := cfg0) (d := D) (s := st) (f := 12) (vs := []) rfl (evalFn_mono (show 100000 ≤ R by omega) 14 6099 (by decide) _ _ _ awakeT_eq)
  have b5 := bdT_0 5
  have cl := fun D st => callA_trees (cfg := cfg0) (d := D) (s := st) (f := 18) (vs := [.sl (cellsK ks) ks.length .loose, encT tup0]) rfl (tList_eq R 6098 ks .loose tup0 (by omega))
  have ci := fun D st => callA_trees (cfg := cfg0) (d := D) (s := st) (f := 19) (vs := [encT (listT ks tup0)]) rfl (items_eq R (by omega) 6098 (listT ks tup0))
  rw [items_list5] at ci
  have cp := fun D st => cPlace R 6098 n 1 (by decide) (by decide) D st
  have hp : placeN n 1 = 0 := by unfold placeN; rw [Int.tmod_one]; rfl
  rw [hp] at cp
  have q0 : ((0 : Int) == 0) = true := rfl
  simp only [itemsV] at ci
  simp only [encT, tup0, cellsT, cellsK, encL, encC, List.map_nil, List.length_nil, gr] at cl
  simp only [encT, tup0] at ci
  simp only [tlFin, tl20, tl11, codeTL, seqR, Tryd.f5, Option.getD_some, zaa, zab, zac, zad, zae, zaf, zag, zah, zai, zaj, zak, zal, zam, zan, zao, zap, zaq, zar, zas, zat, zau, zav, zaw, zax, zay, zaz, zba, zbb, zbc, zbd, zbe, zbf, zbg, zbh, zbi, zbj, Nat.reduceBEq, Bool.or_self, Bool.or_false, Bool.or_true, Bool.and_true, Bool.and_false, Bool.true_and, Bool.false_and, Option.isNone_none, Option.isNone_some, Option.isSome_some, Option.isSome_none, zbk, zbl, zbm, zbn, zbo, zbp, zbq, zbr, zbs, zbt, zbu, zbv, zbw, zbx, zby, zbz, zca, zcb, zcc, zcd, zce, zcf, zcg, zch, zci, zcj, zck, zcl, zcm, zcn, zco, zcp, zcq, zcr, zcs, zct, zcu, zcv, zcw, zcx, zcy, zcz, zda, zdb, zdc, zdd, zde, zdf, Option.getD_some, Option.getD_none, zet, zeu, zev, zew, zex, zey, zez, zfa, Option.map_some, Option.map_none, Option.bind_some, List.map_cons, List.map_nil, List.cons_append, List.nil_append, ↓reduceIte, Nat.reduceEqDiff, Nat.reduceAdd, decide_true, decide_false, Bool.true_eq_false, Bool.false_eq_true, env0, List.getElem?_cons_zero, List.getElem?_cons_succ, zdg, zdh, zdi, zdj, zdk, zdl, zdm, zdn, ia22, ld31, zdo, zdp, zdq, zdr, zds, zdt, zdu, zdv, zdw, zdx, zdy, zdz, zea, zeb, zec, fa_0, fa_1, zed, bd_0, bd_2, zee, fd_1, zef, Nat.zero_add, e0, e1, b5, cl, ci, cp, i_eqlV, q0, unA_not', Bool.not_false, wa]
  exact finish_bb _ _ _ _ _ _ (by first | (simp only [zfa, ↓reduceIte, Nat.reduceEqDiff]; done) | (simp only [zfa, ↓reduceIte, Nat.reduceEqDiff]; rfl))
set_option maxHeartbeats 8000000 in
theorem tl11_eq (hle : leanK ks) (hw : wfK ks) (hk : ∀ t ∈ ks, nodT t ≤ 50) (hn : nodK ks ≤ 50 * ks.length) (env : Env) (s : St) (e0 : env 0 = .sl (cellsK ks) ks.length .loose) (e1 : env 1 = .int .i64 n) (e5 : env 5 = .int .i64 ((1 : Int) + ks.length + nodK ks)) (e6 : env 6 = .int .i64 (2 * (ks.length : Int) + wsK ks)) :
    den Tryd.prog cfg0 (evalFn Tryd.prog cfg0 R 6099) R tl11 (tlFin ks n) env s = some (.tree (.bool true), [[], []]) := by
  have b3 := bdT_0 3
  have hnl : nodT (listT ks nilT') = ks.length + nodK ks + 1 := by rw [nod_list]; rfl
  have cl := fun D st => callA_trees (cfg := cfg0) (d := D) (s := st) (f := 18) (vs := [.sl (cellsK ks) ks.length .loose, encT nilT']) rfl (tList_eq R 6098 ks .loose nilT' (by omega))
  have ci := fun D st => callA_trees (cfg := cfg0) (d := D) (s := st) (f := 19) (vs := [encT (listT ks nilT')]) rfl (items_eq R (by omega) 6098 (listT ks nilT'))
  rw [items_list ks hl] at ci
  have hht := ht_nod (listT ks nilT')
  have cn := fun D st => callA_trees (cfg := cfg0) (d := D) (s := st) (f := 11) (vs := [encT (listT ks nilT')]) rfl (evalFn_mono (show 1000000 ≤ R from hR) 6099 6099 (Nat.le_refl _) _ _ _ (tNodes_eq 1000000 (Nat.le_refl _) 6099 (listT ks nilT') (by omega) (by omega)))
  have cw := fun D st => callA_trees (cfg := cfg0) (d := D) (s := st) (f := 17) (vs := [encT (listT ks nilT')]) rfl (evalFn_mono (show 1000000 ≤ R from hR) 6099 6099 (Nat.le_refl _) _ _ _ (tWords_eq 1000000 (by decide) (Nat.le_refl _) 6094 (listT ks nilT') (by omega) (by omega) (lean_listT ks nilT' hle (by simp only [nilT', leanT, leanK, and_true]; exact ⟨by decide, by decide⟩)) (wf_listT ks nilT' hw (by simp only [nilT', wfT, wfK, and_true]; exact limbs_nil))))
  rw [hnl] at cn
  have hws : wsT (listT ks nilT') = 2 * (ks.length : Int) + wsK ks := by rw [ws_list]; simp [nilT', wsT, wsK, wT]
  rw [hws] at cw
  simp only [itemsV] at ci
  simp only [encT, nilT', cellsT, cellsK, encL, encC, List.map_nil, List.length_nil, gr] at cl
  simp only [encT, nilT'] at ci cn cw
  have q1 : ((ks.length : Int) != (ks.length : Int)) = false := bne_self_eq_false _
  have q2 : (((ks.length + nodK ks + 1 : Nat) : Int) != (1 : Int) + ks.length + nodK ks) = false := by
    rw [bne_eq_false_iff_eq]; omega
  have q3 : ((2 * (ks.length : Int) + wsK ks) != 2 * (ks.length : Int) + wsK ks) = false := bne_self_eq_false _
  simp only [tlFin, tl11, codeTL, seqR, Tryd.f5, Option.getD_some, zaa, zab, zac, zad, zae, zaf, zag, zah, zai, zaj, zak, zal, zam, zan, zao, zap, zaq, zar, zas, zat, zau, zav, zaw, zax, zay, zaz, zba, zbb, zbc, zbd, zbe, zbf, zbg, zbh, zbi, zbj, Nat.reduceBEq, Bool.or_self, Bool.or_false, Bool.or_true, Bool.and_true, Bool.and_false, Bool.true_and, Bool.false_and, Option.isNone_none, Option.isNone_some, Option.isSome_some, Option.isSome_none, zbk, zbl, zbm, zbn, zbo, zbp, zbq, zbr, zbs, zbt, zbu, zbv, zbw, zbx, zby, zbz, zca, zcb, zcc, zcd, zce, zcf, zcg, zch, zci, zcj, zck, zcl, zcm, zcn, zco, zcp, zcq, zcr, zcs, zct, zcu, zcv, zcw, zcx, zcy, zcz, zda, zdb, zdc, zdd, zde, zdf, Option.getD_some, Option.getD_none, zet, zeu, zev, zew, zex, zey, zez, zfa, Option.map_some, Option.map_none, Option.bind_some, List.map_cons, List.map_nil, List.cons_append, List.nil_append, ↓reduceIte, Nat.reduceEqDiff, Nat.reduceAdd, decide_true, decide_false, Bool.true_eq_false, Bool.false_eq_true, env0, List.getElem?_cons_zero, List.getElem?_cons_succ, zdg, zdh, zdi, zdj, zdk, zdl, zdm, zdn, ia22, ld31, zdo, zdp, zdq, zdr, zds, zdt, zdu, zdv, zdw, zdx, zdy, zdz, zea, zeb, zec, fa_0, fa_1, zed, bd_0, bd_2, zee, fd_1, zef, Nat.zero_add, e0, e1, e5, e6, b3, cl, ci, cn, cw, zeroT, st_Tt, stT_6, ldT_u, lenTk, i_eqlV, i_neqV, q1, q2, q3, unA_not', Bool.not_true, den_loop]
  refine loop_ends (X := Nat) (fun i env s' => env 0 = .sl (cellsK ks) ks.length .loose ∧ env 1 = .int .i64 n ∧ env 9 = .sl (cellsK ks) ks.length (gr (kgOf ks)) ∧ env 11 = .int .i64 (i : Int) ∧ i ≤ ks.length) (fun i => ks.length - i) (fun _ => (.tree (.bool true), [[], []])) ?_ R 0 _ _ (by omega) ⟨(by first | (simp only [zfa, ↓reduceIte, Nat.reduceEqDiff, e0]; done) | (simp only [zfa, ↓reduceIte, Nat.reduceEqDiff, e0]; rfl)), (by first | (simp only [zfa, ↓reduceIte, Nat.reduceEqDiff, e1]; done) | (simp only [zfa, ↓reduceIte, Nat.reduceEqDiff, e1]; rfl)), (by first | (simp only [zfa, ↓reduceIte, Nat.reduceEqDiff]; done) | (simp only [zfa, ↓reduceIte, Nat.reduceEqDiff]; rfl)), (by first | (simp only [zfa, ↓reduceIte, Nat.reduceEqDiff]; done) | (simp only [zfa, ↓reduceIte, Nat.reduceEqDiff]; rfl)), Nat.zero_le _⟩
  clear e0 e1
  rintro rr i hrr ih env st ⟨e0, e1, e9, e11, hi⟩
  cases hdr : ks.drop i with
  | nil =>
    have hil : i = ks.length := by have := congrArg List.length hdr; simp only [List.length_drop, List.length_nil] at this; omega
    subst hil
    have q4 : ¬ ((ks.length : Int) < (ks.length : Int)) := by omega
    simp only [zaa, zab, zac, zad, zae, zaf, zag, zah, zai, zaj, zak, zal, zam, zan, zao, zap, zaq, zar, zas, zat, zau, zav, zaw, zax, zay, zaz, zba, zbb, zbc, zbd, zbe, zbf, zbg, zbh, zbi, zbj, Nat.reduceBEq, Bool.or_self, Bool.or_false, Bool.or_true, Bool.and_true, Bool.and_false, Bool.true_and, Bool.false_and, Option.isNone_none, Option.isNone_some, Option.isSome_some, Option.isSome_none, zbk, zbl, zbm, zbn, zbo, zbp, zbq, zbr, zbs, zbt, zbu, zbv, zbw, zbx, zby, zca, zcb, zcc, zce, zcf, zch, zci, zcj, zck, zcl, zcm, zcn, zco, zcp, zcq, zcr, zcs, zct, zcu, zcv, zcw, zcx, zcy, zcz, zda, zdb, zdc, zdd, zde, zdf, Option.getD_some, Option.getD_none, zet, zeu, zev, zew, zex, zey, zez, zfa, Option.map_some, Option.map_none, Option.bind_some, List.map_cons, List.map_nil, List.cons_append, List.nil_append, ↓reduceIte, Nat.reduceEqDiff, Nat.reduceAdd, decide_true, decide_false, Bool.true_eq_false, Bool.false_eq_true, zbz, zdg, zdh, zdi, zdj, zdk, zdl, zdm, zdn, ia22, ld31, zdo, zdp, zdq, zdr, zds, zdt, zdu, zdv, zdw, zdx, zdy, zdz, zea, zeb, zec, fa_0, fa_1, zed, bd_0, bd_2, zee, fd_1, zef, Nat.zero_add, e0, e1, e9, e11, lenTk, q4]
    rw [zcg, zcd, if_pos rfl, zbz]
    exact tl20_eq R hR ks hl n _ _ (by first | (simp only [zfa, ↓reduceIte, Nat.reduceEqDiff, e0]; done) | (simp only [zfa, ↓reduceIte, Nat.reduceEqDiff, e0]; rfl)) (by first | (simp only [zfa, ↓reduceIte, Nat.reduceEqDiff, e1]; done) | (simp only [zfa, ↓reduceIte, Nat.reduceEqDiff, e1]; rfl))
  | cons kid r =>
    have hil : i < ks.length := by have := congrArg List.length hdr; simp only [List.length_drop, List.length_cons] at this; omega
    have q4 : (i : Int) < (ks.length : Int) := by omega
    have hmem : kid ∈ ks := by have : kid ∈ ks.drop i := by rw [hdr]; simp
                               exact List.mem_of_mem_drop this
    have kl := leanK_at ks i kid r hdr hle
    have kn := hk kid hmem
    have kh := ht_nod kid
    have cs := callQ_trees (f := 20) (vs := [encT kid, encT kid]) rfl (evalFn_mono (show 100000 ≤ R by omega) 6000 6099 (by decide) _ _ _ (tsame_eq 2000 6000 kid kid (by omega) (by omega) (few_nod kid kl (by omega))))
    rw [same_refl] at cs
    simp only [encT] at cs
    have ia1 := fun st => ia_K st ks (gr (kgOf ks)) i hil
    have ia2 := fun st => ia_K st ks .loose i hil
    rw [hdr] at ia1 ia2
    have ld := fun st => ld_K st kid r
    simp only [encT] at ld
    have f5 := i_add Tryd.prog 3 (i : Int) 1 (by omega) (by omega)
    simp only [zaa, zab, zac, zad, zae, zaf, zag, zah, zai, zaj, zak, zal, zam, zan, zao, zap, zaq, zar, zas, zat, zau, zav, zaw, zax, zay, zaz, zba, zbb, zbc, zbd, zbe, zbf, zbg, zbh, zbi, zbj, Nat.reduceBEq, Bool.or_self, Bool.or_false, Bool.or_true, Bool.and_true, Bool.and_false, Bool.true_and, Bool.false_and, Option.isNone_none, Option.isNone_some, Option.isSome_some, Option.isSome_none, zbk, zbl, zbm, zbn, zbo, zbp, zbq, zbr, zbs, zbt, zbu, zbv, zbw, zbx, zby, zbz, zca, zcb, zcc, zcd, zce, zcf, zcg, zch, zci, zcj, zck, zcl, zcm, zcn, zco, zcp, zcq, zcr, zcs, zct, zcu, zcv, zcw, zcx, zcy, zcz, zda, zdb, zdc, zdd, zde, zdf, Option.getD_some, Option.getD_none, zet, zeu, zev, zew, zex, zey, zez, zfa, Option.map_some, Option.map_none, Option.bind_some, List.map_cons, List.map_nil, List.cons_append, List.nil_append, ↓reduceIte, Nat.reduceEqDiff, Nat.reduceAdd, decide_true, decide_false, Bool.true_eq_false, Bool.false_eq_true, zdg, zdh, zdi, zdj, zdk, zdl, zdm, zdn, ia22, ld31, zdo, zdp, zdq, zdr, zds, zdt, zdu, zdv, zdw, zdx, zdy, zdz, zea, zeb, zec, fa_0, fa_1, zed, bd_0, bd_2, zee, fd_1, zef, Nat.zero_add, e0, e1, e9, e11, lenTk, q4, ia1, ia2, ld, cs, unA_not', Bool.not_true, f5]
    exact ih (i + 1) _ _ (by omega) rfl ⟨(by first | (simp only [zfa, ↓reduceIte, Nat.reduceEqDiff, e0]; done) | (simp only [zfa, ↓reduceIte, Nat.reduceEqDiff, e0]; rfl)), (by first | (simp only [zfa, ↓reduceIte, Nat.reduceEqDiff, e1]; done) | (simp only [zfa, ↓reduceIte, Nat.reduceEqDiff, e1]; rfl)), (by first | (simp only [zfa, ↓reduceIte, Nat.reduceEqDiff, e9]; done) | (simp only [zfa, ↓reduceIte, Nat.reduceEqDiff, e9]; rfl)), (by first | (simp only [zfa, ↓reduceIte, Nat.reduceEqDiff]; done) | (simp only [zfa, ↓reduceIte, Nat.reduceEqDiff]; rfl)), by omega⟩
end
theorem nodK_50 : ∀ ks : List T, (∀ t ∈ ks, nodT t ≤ 50) → nodK ks ≤ 50 * ks.length
  | [], _ => by simp [nodK]
  | t :: r, h => by
    have h1 := h t (by simp)
    have h2 := nodK_50 r fun x hx => h x (by simp [hx])
    simp only [nodK, List.length_cons]; omega
set_option maxHeartbeats 8000000 in
theorem lists_T (R : Nat) (hR : 1000000 ≤ R) (hR2 : R ≤ 9223372036854775808) (ks : List T) (hb : bigK R ks) (hf : fewK R ks) (n : Int) :
    evalFn Tryd.prog cfg0 R 6100 5 [.tree (.sl (cellsK ks) ks.length .loose), .tree (.int .i64 n)] = some (.tree (.bool true), [[], []]) := by
  rw [evalFn_go _ Tryd.func5 (by unfold Tryd.f5; rfl) (by unfold Tryd.f5; decide) (Nat.le_of_ble_eq_true (by unfold Tryd.f5; rfl)) (by kernel_rfl)]
  have wa := fun D st => callA_trees (cfg := cfg0) (d := D) (s := st) (f := 12) (vs := []) rfl (evalFn_mono (show 100000 ≤ R by omega) 14 6099 (by decide) _ _ _ awakeT_eq)
  by_cases h1 : (ks.length : Int) > 60
  · simp only [zaa, zab, zac, zad, zae, zaf, zag, zah, zai, zaj, zak, zal, zam, zan, zao, zap, zaq, zar, zas, zat, zau, zav, zaw, zax, zay, zaz, zba, zbb, zbc, zbd, zbe, zbf, zbg, zbh, zbi, zbj, Nat.reduceBEq, Bool.or_self, Bool.or_false, Bool.or_true, Bool.and_true, Bool.and_false, Bool.true_and, Bool.false_and, Option.isNone_none, Option.isNone_some, Option.isSome_some, Option.isSome_none, zbk, zbl, zbm, zbn, zbo, zbp, zbq, zbr, zbs, zbt, zbu, zbv, zbw, zbx, zby, zbz, zca, zcb, zcc, zcd, zce, zcf, zcg, zch, zci, zcj, zck, zcl, zcm, zcn, zco, zcp, zcq, zcr, zcs, zct, zcu, zcv, zcw, zcx, zcy, zcz, zda, zdb, zdc, zdd, zde, zdf, Option.getD_some, Option.getD_none, zet, zeu, zev, zew, zex, zey, zez, zfa, Option.map_some, Option.map_none, Option.bind_some, List.map_cons, List.map_nil, List.cons_append, List.nil_append, ↓reduceIte, Nat.reduceEqDiff, Nat.reduceAdd, decide_true, decide_false, Bool.true_eq_false, Bool.false_eq_true, env0, List.getElem?_cons_zero, List.getElem?_cons_succ, zdg, zdh, zdi, zdj, zdk, zdl, zdm, zdn, ia22, ld31, zdo, zdp, zdq, zdr, zds, zdt, zdu, zdv, zdw, zdx, zdy, zdz, zea, zeb, zec, fa_0, fa_1, zed, bd_0, bd_2, zee, fd_1, zef, Nat.zero_add, lenTk, h1, wa]
    exact finish_b _ _ _ _ _ _ _ (by first | (simp only [zfa, ↓reduceIte, Nat.reduceEqDiff]; done) | (simp only [zfa, ↓reduceIte, Nat.reduceEqDiff]; rfl)) rfl
  have hl : ks.length ≤ 60 := by omega
  simp only [zaa, zab, zac, zad, zae, zaf, zag, zah, zai, zaj, zak, zal, zam, zan, zao, zap, zaq, zar, zas, zat, zau, zav, zaw, zax, zay, zaz, zba, zbb, zbc, zbd, zbe, zbf, zbg, zbh, zbi, zbj, Nat.reduceBEq, Bool.or_self, Bool.or_false, Bool.or_true, Bool.and_true, Bool.and_false, Bool.true_and, Bool.false_and, Option.isNone_none, Option.isNone_some, Option.isSome_some, Option.isSome_none, zbk, zbl, zbm, zbn, zbo, zbp, zbq, zbr, zbs, zbt, zbu, zbv, zbw, zbx, zby, zbz, zca, zcb, zcc, zcd, zce, zcf, zcg, zch, zci, zcj, zck, zcl, zcm, zcn, zco, zcp, zcq, zcr, zcs, zct, zcu, zcv, zcw, zcx, zcy, zcz, zda, zdb, zdc, zdd, zde, zdf, Option.getD_some, Option.getD_none, zet, zeu, zev, zew, zex, zey, zez, zfa, Option.map_some, Option.map_none, Option.bind_some, List.map_cons, List.map_nil, List.cons_append, List.nil_append, ↓reduceIte, Nat.reduceEqDiff, Nat.reduceAdd, decide_true, decide_false, Bool.true_eq_false, Bool.false_eq_true, env0, List.getElem?_cons_zero, List.getElem?_cons_succ, zdg, zdh, zdi, zdj, zdk, zdl, zdm, zdn, ia22, ld31, zdo, zdp, zdq, zdr, zds, zdt, zdu, zdv, zdw, zdx, zdy, zdz, zea, zeb, zec, fa_0, fa_1, zed, bd_0, bd_2, zee, fd_1, zef, Nat.zero_add, lenTk, h1, den_loop]
  refine loop_ends (X := Nat) (fun i env s' => env 0 = .sl (cellsK ks) ks.length .loose ∧ env 1 = .int .i64 n ∧ env 5 = .int .i64 ((1 : Int) + i + nodK (ks.take i)) ∧ env 6 = .int .i64 (2 * (i : Int) + wsK (ks.take i)) ∧ env 7 = .int .i64 (i : Int) ∧ i ≤ ks.length ∧ leanK (ks.take i) ∧ ∀ t ∈ ks.take i, nodT t ≤ 50) (fun i => ks.length - i) (fun _ => (.tree (.bool true), [[], []])) ?_ R 0 _ _ (by omega) ⟨(by first | (simp only [zfa, ↓reduceIte, Nat.reduceEqDiff]; done) | (simp only [zfa, ↓reduceIte, Nat.reduceEqDiff]; rfl)), (by first | (simp only [zfa, ↓reduceIte, Nat.reduceEqDiff]; done) | (simp only [zfa, ↓reduceIte, Nat.reduceEqDiff]; rfl)), (by first | (simp only [zfa, ↓reduceIte, Nat.reduceEqDiff]; done) | (simp only [zfa, ↓reduceIte, Nat.reduceEqDiff]; rfl)), (by first | (simp only [zfa, ↓reduceIte, Nat.reduceEqDiff]; done) | (simp only [zfa, ↓reduceIte, Nat.reduceEqDiff]; rfl)), (by first | (simp only [zfa, ↓reduceIte, Nat.reduceEqDiff]; done) | (simp only [zfa, ↓reduceIte, Nat.reduceEqDiff]; rfl)), Nat.zero_le _, by simp only [List.take_zero, leanK], by intro t ht; simp at ht⟩
  rintro rr i hrr ih env st ⟨e0, e1, e5, e6, e7, hi, hle, hk⟩
  cases hdr : ks.drop i with
  | nil =>
    have hil : i = ks.length := by have := congrArg List.length hdr; simp only [List.length_drop, List.length_nil] at this; omega
    subst hil
    rw [List.take_length] at e5 e6 hle hk
    have q4 : ¬ ((ks.length : Int) < (ks.length : Int)) := by omega
    simp only [zaa, zab, zac, zad, zae, zaf, zag, zah, zai, zaj, zak, zal, zam, zan, zao, zap, zaq, zar, zas, zat, zau, zav, zaw, zax, zay, zaz, zba, zbb, zbc, zbd, zbe, zbf, zbg, zbh, zbi, zbj, Nat.reduceBEq, Bool.or_self, Bool.or_false, Bool.or_true, Bool.and_true, Bool.and_false, Bool.true_and, Bool.false_and, Option.isNone_none, Option.isNone_some, Option.isSome_some, Option.isSome_none, zbk, zbl, zbm, zbn, zbo, zbp, zbq, zbr, zbs, zbt, zbu, zbv, zbw, zbx, zby, zca, zcb, zcc, zce, zcf, zch, zci, zcj, zck, zcl, zcm, zcn, zco, zcp, zcq, zcr, zcs, zct, zcu, zcv, zcw, zcx, zcy, zcz, zda, zdb, zdc, zdd, zde, zdf, Option.getD_some, Option.getD_none, zet, zeu, zev, zew, zex, zey, zez, zfa, Option.map_some, Option.map_none, Option.bind_some, List.map_cons, List.map_nil, List.cons_append, List.nil_append, ↓reduceIte, Nat.reduceEqDiff, Nat.reduceAdd, decide_true, decide_false, Bool.true_eq_false, Bool.false_eq_true, zbz, zdg, zdh, zdi, zdj, zdk, zdl, zdm, zdn, ia22, ld31, zdo, zdp, zdq, zdr, zds, zdt, zdu, zdv, zdw, zdx, zdy, zdz, zea, zeb, zec, fa_0, fa_1, zed, bd_0, bd_2, zee, fd_1, zef, Nat.zero_add, e0, e1, e5, e6, e7, lenTk, q4]
    rw [zcg, zcd, if_pos rfl, zbz]
    exact tl11_eq R hR ks hl n hle (bigK_wf R ks hb) hk (nodK_50 ks hk) _ _ (by first | (simp only [zfa, ↓reduceIte, Nat.reduceEqDiff, e0]; done) | (simp only [zfa, ↓reduceIte, Nat.reduceEqDiff, e0]; rfl)) (by first | (simp only [zfa, ↓reduceIte, Nat.reduceEqDiff, e1]; done) | (simp only [zfa, ↓reduceIte, Nat.reduceEqDiff, e1]; rfl)) (by first | (simp only [zfa, ↓reduceIte, Nat.reduceEqDiff, e5]; done) | (simp only [zfa, ↓reduceIte, Nat.reduceEqDiff, e5]; rfl)) (by first | (simp only [zfa, ↓reduceIte, Nat.reduceEqDiff, e6]; done) | (simp only [zfa, ↓reduceIte, Nat.reduceEqDiff, e6]; rfl))
  | cons kid r =>
    have hil : i < ks.length := by have := congrArg List.length hdr; simp only [List.length_drop, List.length_cons] at this; omega
    have q4 : (i : Int) < (ks.length : Int) := by omega
    have kb := bigK_at R ks i kid r hdr hb
    have kf := fewK_at R ks i kid r hdr hf
    have cli := fun D st => callA_trees (cfg := cfg0) (d := D) (s := st) (f := 16) (vs := [encT kid, .int .i64 50]) rfl (Light_eq R (by omega) hR2 6098 kid 50 (by decide) (by decide) (by decide) kb kf)
    have ia := fun st => ia_K st ks .loose i hil
    rw [hdr] at ia
    have ld := fun st => ld_K st kid r
    simp only [encT] at cli ld
    by_cases hg : lgT kid 50 ≥ 0
    rotate_left
    · rw [decide_eq_false hg] at cli
      simp only [zaa, zab, zac, zad, zae, zaf, zag, zah, zai, zaj, zak, zal, zam, zan, zao, zap, zaq, zar, zas, zat, zau, zav, zaw, zax, zay, zaz, zba, zbb, zbc, zbd, zbe, zbf, zbg, zbh, zbi, zbj, Nat.reduceBEq, Bool.or_self, Bool.or_false, Bool.or_true, Bool.and_true, Bool.and_false, Bool.true_and, Bool.false_and, Option.isNone_none, Option.isNone_some, Option.isSome_some, Option.isSome_none, zbk, zbl, zbm, zbn, zbo, zbp, zbq, zbr, zbs, zbt, zbu, zbv, zbw, zbx, zby, zbz, zca, zcb, zcc, zcd, zce, zcf, zcg, zch, zci, zcj, zck, zcl, zcm, zcn, zco, zcp, zcq, zcr, zcs, zct, zcu, zcv, zcw, zcx, zcy, zcz, zda, zdb, zdc, zdd, zde, zdf, Option.getD_some, Option.getD_none, zet, zeu, zev, zew, zex, zey, zez, zfa, Option.map_some, Option.map_none, Option.bind_some, List.map_cons, List.map_nil, List.cons_append, List.nil_append, ↓reduceIte, Nat.reduceEqDiff, Nat.reduceAdd, decide_true, decide_false, Bool.true_eq_false, Bool.false_eq_true, zdg, zdh, zdi, zdj, zdk, zdl, zdm, zdn, ia22, ld31, zdo, zdp, zdq, zdr, zds, zdt, zdu, zdv, zdw, zdx, zdy, zdz, zea, zeb, zec, fa_0, fa_1, zed, bd_0, bd_2, zee, fd_1, zef, Nat.zero_add, e0, e1, e5, e6, e7, lenTk, q4, ia, ld, cli, unA_not', Bool.not_false, wa]
      exact finish_b _ _ _ _ _ _ _ (by first | (simp only [zfa, ↓reduceIte, Nat.reduceEqDiff]; done) | (simp only [zfa, ↓reduceIte, Nat.reduceEqDiff]; rfl)) rfl
    rw [decide_eq_true hg] at cli
    obtain ⟨kl, kn⟩ := lgT_ok kid 50 hg
    have kn2 : nodT kid ≤ 50 := by omega
    have kh := ht_nod kid
    have cn := fun D st => callA_trees (cfg := cfg0) (d := D) (s := st) (f := 11) (vs := [encT kid]) rfl (evalFn_mono (show 1000000 ≤ R from hR) 6099 6099 (Nat.le_refl _) _ _ _ (tNodes_eq 1000000 (Nat.le_refl _) 6099 kid (by omega) (by omega)))
    have cw := fun D st => callA_trees (cfg := cfg0) (d := D) (s := st) (f := 17) (vs := [encT kid]) rfl (evalFn_mono (show 1000000 ≤ R from hR) 6099 6099 (Nat.le_refl _) _ _ _ (tWords_eq 1000000 (by decide) (Nat.le_refl _) 6094 kid (by omega) (by omega) kl (big_wf R kid kb)))
    simp only [encT] at cn cw
    have ht1 : ks.take (i + 1) = ks.take i ++ [kid] := by
      rw [List.take_add_one]
      congr 1
      have : ks[i]? = some kid := by rw [← Nat.add_zero i, ← List.getElem?_drop, hdr]; rfl
      rw [this]; rfl
    have hn0 := nodK_50 _ hk
    rw [List.length_take] at hn0
    have w0 := wsK_rng _ hle
    have w1 := wsT_rng kid kl
    have hnk : nodK (ks.take (i + 1)) = nodK (ks.take i) + nodT kid := by rw [ht1, nodK_app]; simp only [nodK]; omega
    have hwk : wsK (ks.take (i + 1)) = wsK (ks.take i) + wsT kid := by rw [ht1, wsK_app]; simp only [wsK]; omega
    have f5 := i_add Tryd.prog 3 (i : Int) 1 (by omega) (by omega)
    have f6 := i_add Tryd.prog 3 ((1 : Int) + i + nodK (ks.take i)) 1 (by omega) (by omega)
    have f7 := i_add Tryd.prog 3 ((1 : Int) + i + nodK (ks.take i) + 1) (nodT kid : Int) (by omega) (by omega)
    have f8 := i_add Tryd.prog 3 (2 * (i : Int) + wsK (ks.take i)) 2 (by omega) (by omega)
    have f9 := i_add Tryd.prog 3 (2 * (i : Int) + wsK (ks.take i) + 2) (wsT kid) (by omega) (by omega)
    simp only [zaa, zab, zac, zad, zae, zaf, zag, zah, zai, zaj, zak, zal, zam, zan, zao, zap, zaq, zar, zas, zat, zau, zav, zaw, zax, zay, zaz, zba, zbb, zbc, zbd, zbe, zbf, zbg, zbh, zbi, zbj, Nat.reduceBEq, Bool.or_self, Bool.or_false, Bool.or_true, Bool.and_true, Bool.and_false, Bool.true_and, Bool.false_and, Option.isNone_none, Option.isNone_some, Option.isSome_some, Option.isSome_none, zbk, zbl, zbm, zbn, zbo, zbp, zbq, zbr, zbs, zbt, zbu, zbv, zbw, zbx, zby, zbz, zca, zcb, zcc, zcd, zce, zcf, zcg, zch, zci, zcj, zck, zcl, zcm, zcn, zco, zcp, zcq, zcr, zcs, zct, zcu, zcv, zcw, zcx, zcy, zcz, zda, zdb, zdc, zdd, zde, zdf, Option.getD_some, Option.getD_none, zet, zeu, zev, zew, zex, zey, zez, zfa, Option.map_some, Option.map_none, Option.bind_some, List.map_cons, List.map_nil, List.cons_append, List.nil_append, ↓reduceIte, Nat.reduceEqDiff, Nat.reduceAdd, decide_true, decide_false, Bool.true_eq_false, Bool.false_eq_true, zdg, zdh, zdi, zdj, zdk, zdl, zdm, zdn, ia22, ld31, zdo, zdp, zdq, zdr, zds, zdt, zdu, zdv, zdw, zdx, zdy, zdz, zea, zeb, zec, fa_0, fa_1, zed, bd_0, bd_2, zee, fd_1, zef, Nat.zero_add, e0, e1, e5, e6, e7, lenTk, q4, ia, ld, cli, cn, cw, unA_not', Bool.not_true, f5, f6, f7, f8, f9]
    have x1 : (1 : Int) + i + nodK (ks.take i) + 1 + nodT kid = 1 + ((i + 1 : Nat) : Int) + nodK (ks.take (i + 1)) := by omega
    have x2 : 2 * (i : Int) + wsK (ks.take i) + 2 + wsT kid = 2 * ((i + 1 : Nat) : Int) + wsK (ks.take (i + 1)) := by omega
    rw [x1, x2]
    refine ih (i + 1) _ _ (by omega) rfl ⟨(by first | (simp only [zfa, ↓reduceIte, Nat.reduceEqDiff, e0]; done) | (simp only [zfa, ↓reduceIte, Nat.reduceEqDiff, e0]; rfl)), (by first | (simp only [zfa, ↓reduceIte, Nat.reduceEqDiff, e1]; done) | (simp only [zfa, ↓reduceIte, Nat.reduceEqDiff, e1]; rfl)), (by first | (simp only [zfa, ↓reduceIte, Nat.reduceEqDiff]; done) | (simp only [zfa, ↓reduceIte, Nat.reduceEqDiff]; rfl)), (by first | (simp only [zfa, ↓reduceIte, Nat.reduceEqDiff]; done) | (simp only [zfa, ↓reduceIte, Nat.reduceEqDiff]; rfl)), (by first | (simp only [zfa, ↓reduceIte, Nat.reduceEqDiff]; done) | (simp only [zfa, ↓reduceIte, Nat.reduceEqDiff]; rfl)), by omega, ?_, ?_⟩
    · rw [ht1]
      exact leanK_snoc hle kl
    · rw [ht1]
      intro t ht
      rcases List.mem_append.mp ht with h | h
      · exact hk t h
      · simp only [List.mem_singleton] at h; subst h; exact kn2
end Go.Ab

/- The walk of TermLists: it gives true, and leaves memory below as it was. No conditions. -/
namespace Go.Ab
open Go.Proofs Go.RowKit
theorem walkTLists (a0 : Option Addr) (len0 cap0 : Nat) (n : Int) (w : World) (h0 : IsTerms w a0 len0 cap0) (_h1 : (Lit.int .i64 n).wf = true) :
    Calls Tryd.prog 5 #[.slice a0 len0 cap0, .int .i64 n] w fun e w' => e = .returned (.bool true) ∧ Below w.heap.size w w' := by
  obtain ⟨ks, rfl, hb, hf, hv⟩ := h0
  refine lawCalls mixed (vs := [.slice a0 ks.length cap0, .int .i64 n]) (lists_T R0 (by unfold R0; decide) (by unfold R0; decide) ks hb hf n) rfl (st0_2 _ _) (fun j v hj => ?_) true rfl
  match j, hj with
  | 0, hj => cases hj; exact ⟨hv, rfl⟩
  | 1, hj => cases hj; exact ⟨by simp only [env0, List.getElem?_cons_succ, List.getElem?_cons_zero, V0], rfl⟩
end Go.Ab
