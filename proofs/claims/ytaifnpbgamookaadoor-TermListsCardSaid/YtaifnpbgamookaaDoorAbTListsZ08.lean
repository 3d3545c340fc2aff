/- Several texts put together: AbtT16, AbMono, AbtT17, AbtOp, AbtOp2, AbtT20, AbtT18. Conditions: as each part says. -/
import Derived.Test.YtaifnpbgamookaaDoorAbTListsZ07
import Derived.Test.YtaifnpbgamookaaDoorAbTListsZ00
import Derived.Test.YtaifnpbgamookaaDoorAbTListsZ04
import Derived.Test.YtaifnpbgamookaaDoorAbTListsZ06
/- The document's own check of a term by itself. Conditions: limbs in range; a text shorter than the rounds. -/
namespace Go.Ab
open Go.Proofs
set_option maxRecDepth 100000
set_option linter.unusedSimpArgs false

def badT (m k : Int) (b : Bool) (l : List Nat) (s : List UInt8) : Bool := (m != 0) || ((k != 1) && !zeroB b l) || ((k != 2) && (k != 6) && !(s == []))
def ownS (k : Int) (b : Bool) (l : List Nat) (s : List UInt8) (c : Nat) : Bool :=
  if k = 1 then chkN b l && decide (c = 0) else if k = 2 then s.all okC && (decide (1 ≤ s.length) && decide (s.length ≤ 40) && decide (c = 0)) else if k = 3 then decide (c = 0) else if k = 4 then decide (c = 2) else if k = 5 then decide (c ≤ 40)
  else if k = 6 then decide (s.length ≤ 400) && decide (c = 0) else false
theorem own_split (k : Int) (b : Bool) (lg : Gk) (l : List Nat) (s : List UInt8) (m : Int) (kg : Gk) (ks : List T) :
    ownT (.mk k b lg l s m kg ks) = (!badT m k b l s && ownS k b l s ks.length) := by
  unfold badT ownS
  simp only [ownT]
  by_cases h1 : k = 1
  · subst h1; cases hs : s == [] <;> cases hc : chkN b l <;> by_cases hm : m = 0 <;> simp [hm, hs]
  by_cases h2 : k = 2
  · subst h2
    unfold nameB
    cases hz : zeroB b l <;> by_cases hm : m = 0 <;> simp [hm] <;> cases s.all okC <;> simp
  by_cases h3 : k = 3
  · subst h3; cases hz : zeroB b l <;> cases hs : s == [] <;> by_cases hm : m = 0 <;> simp [hm, hs]
  by_cases h4 : k = 4
  · subst h4; cases hz : zeroB b l <;> cases hs : s == [] <;> by_cases hm : m = 0 <;> simp [hm, hs]
  by_cases h5 : k = 5
  · subst h5; cases hz : zeroB b l <;> cases hs : s == [] <;> by_cases hm : m = 0 <;> simp [hm, hs]
  by_cases h6 : k = 6
  · subst h6; cases hz : zeroB b l <;> by_cases hm : m = 0 <;> simp [hm]
  have hk : ¬ (1 ≤ k ∧ k ≤ 6) := by omega
  simp only [decide_eq_false hk, Bool.false_and, h1, h2, h3, h4, h5, h6, ↓reduceIte, Bool.and_false]
theorem i_neqV (x y : Int) : binA Tryd.prog .neq 3 (.int .i64 x) (.int .i64 y) = some (.bool (x != y)) := rfl
set_option maxHeartbeats 32000000 in
theorem fields_eq (n d : Nat) (k : Int) (b : Bool) (lg : Gk) (l : List Nat) (hl : Limbs l) (s : List UInt8) (hs : s.length < n) (hs2 : s.length ≤ 9223372036854775807) (m : Int) (kg : Gk) (ks : List T) :
    evalFn Tryd.prog cfg0 n (d+2) 67 [.tree (encT (.mk k b lg l s m kg ks))] = some (.tree (.bool (ownT (.mk k b lg l s m kg ks))), [[]]) := by
  rw [own_split]
  rw [evalFn_go _ Tryd.func67 (by unfold Tryd.f67; rfl) (by unfold Tryd.f67; decide) (Nat.le_of_ble_eq_true (by unfold Tryd.f67; rfl)) (by kernel_rfl)]
  have c1 := fun D st => callA_trees (cfg := cfg0) (d := D) (s := st) (f := 94) (vs := [.agg [.bool b, encL lg l]]) rfl (rcheck_eq n d b lg l hl)
  rw [den_assoc, den_assoc]
  refine seq_cut (fun env st => env 1 = .ptr 1 1 0 ∧ st 1 = ⟨1, .buf (cellsT (.mk k b lg l s m kg ks))⟩ ∧ badT m k b l s = false) ?_ ?_
  · intro env st ⟨e1, j1, hb⟩
    rw [hb, Bool.not_false, Bool.true_and]
    simp only [cellsT] at j1
    unfold ownS
    by_cases h1 : k = 1
    · subst h1
      have b1 : ((1 : Int) == 1) = true := rfl
      simp only [↓reduceIte]
      cases hc : chkN b l with
      | true =>
        rw [hc] at c1
        simp only [Bool.true_and]
        simp only [zaa, zab, zac, zad, zae, zaf, zag, zah, zai, zaj, zak, zal, zam, zan, zao, zap, zaq, zar, zas, zat, zau, zav, zaw, zax, zay, zaz, zba, zbb, zbc, zbd, zbe, zbf, zbg, zbh, zbi, zbj, Nat.reduceBEq, Bool.or_self, Bool.or_false, Bool.or_true, Bool.and_true, Bool.and_false, Bool.true_and, Bool.false_and, Option.isNone_none, Option.isNone_some, Option.isSome_some, Option.isSome_none, zbk, zbl, zbm, zbn, zbo, zbp, zbq, zbr, zbs, zbt, zbu, zbv, zbw, zbx, zby, zbz, zca, zcb, zcc, zcd, zce, zcf, zcg, zch, zci, zcj, zck, zcl, zcm, zcn, zco, zcp, zcq, zcr, zcs, zct, zcu, zcv, zcw, zcx, zcy, zcz, zda, zdb, zdc, zdd, zde, zdf, Option.getD_some, Option.getD_none, zet, zeu, zev, zew, zex, zey, zez, zfa, Option.map_some, Option.map_none, Option.bind_some, List.map_cons, List.map_nil, List.cons_append, List.nil_append, ↓reduceIte, Nat.reduceEqDiff, Nat.reduceAdd, decide_true, decide_false, Bool.true_eq_false, Bool.false_eq_true, env0, List.getElem?_cons_zero, List.getElem?_cons_succ, zdg, zdh, zdi, zdj, zdk, zdl, zdm, zdn, ia22, ld31, zdo, zdp, zeg, List.toList_toArray, len9, ix9, zeh, zei, zej, zek, zel, zdq, zdr, zds, zdt, zdu, zdv, zdw, zdx, zdy, zdz, zea, zeb, zec, fa_0, fa_1, zed, bd_0, bd_2, zee, fd_1, zef, Nat.zero_add, e1, j1, faT_0, faT_1, faT_2, faT_4, ldT_0, ldT_1, ldT_2, ldT_4, c1, lenTk, natEq0, i_eqlV, b1]
        exact finish_b _ _ _ _ _ _ _ (by first | (simp only [zfa, ↓reduceIte, Nat.reduceEqDiff]; done) | (simp only [zfa, ↓reduceIte, Nat.reduceEqDiff]; rfl)) rfl
      | false =>
        rw [hc] at c1
        simp only [Bool.false_and]
        simp only [zaa, zab, zac, zad, zae, zaf, zag, zah, zai, zaj, zak, zal, zam, zan, zao, zap, zaq, zar, zas, zat, zau, zav, zaw, zax, zay, zaz, zba, zbb, zbc, zbd, zbe, zbf, zbg, zbh, zbi, zbj, Nat.reduceBEq, Bool.or_self, Bool.or_false, Bool.or_true, Bool.and_true, Bool.and_false, Bool.true_and, Bool.false_and, Option.isNone_none, Option.isNone_some, Option.isSome_some, Option.isSome_none, zbk, zbl, zbm, zbn, zbo, zbp, zbq, zbr, zbs, zbt, zbu, zbv, zbw, zbx, zby, zbz, zca, zcb, zcc, zcd, zce, zcf, zcg, zch, zci, zcj, zck, zcl, zcm, zcn, zco, zcp, zcq, zcr, zcs, zct, zcu, zcv, zcw, zcx, zcy, zcz, zda, zdb, zdc, zdd, zde, zdf, Option.getD_some, Option.getD_none, zet, zeu, zev, zew, zex, zey, zez, zfa, Option.map_some, Option.map_none, Option.bind_some, List.map_cons, List.map_nil, List.cons_append, List.nil_append, ↓reduceIte, Nat.reduceEqDiff, Nat.reduceAdd, decide_true, decide_false, Bool.true_eq_false, Bool.false_eq_true, env0, List.getElem?_cons_zero, List.getElem?_cons_succ, zdg, zdh, zdi, zdj, zdk, zdl, zdm, zdn, ia22, ld31, zdo, zdp, zeg, List.toList_toArray, len9, ix9, zeh, zei, zej, zek, zel, zdq, zdr, zds, zdt, zdu, zdv, zdw, zdx, zdy, zdz, zea, zeb, zec, fa_0, fa_1, zed, bd_0, bd_2, zee, fd_1, zef, Nat.zero_add, e1, j1, faT_0, faT_1, faT_2, faT_4, ldT_0, ldT_1, ldT_2, ldT_4, c1, lenTk, natEq0, i_eqlV, b1]
        exact finish_b _ _ _ _ _ _ _ (by first | (simp only [zfa, ↓reduceIte, Nat.reduceEqDiff]; done) | (simp only [zfa, ↓reduceIte, Nat.reduceEqDiff]; rfl)) rfl
    have b1 : (k == 1) = false := beq_eq_false_iff_ne.mpr h1
    by_cases h2 : k = 2
    · subst h2
      simp only [Int.reduceEq, ↓reduceIte]
      simp only [zaa, zab, zac, zad, zae, zaf, zag, zah, zai, zaj, zak, zal, zam, zan, zao, zap, zaq, zar, zas, zat, zau, zav, zaw, zax, zay, zaz, zba, zbb, zbc, zbd, zbe, zbf, zbg, zbh, zbi, zbj, Nat.reduceBEq, Bool.or_self, Bool.or_false, Bool.or_true, Bool.and_true, Bool.and_false, Bool.true_and, Bool.false_and, Option.isNone_none, Option.isNone_some, Option.isSome_some, Option.isSome_none, zbk, zbl, zbm, zbn, zbo, zbp, zbq, zbr, zbs, zbt, zbu, zbv, zbw, zbx, zby, zbz, zca, zcb, zcc, zcd, zce, zcf, zcg, zch, zci, zcj, zck, zcl, zcm, zcn, zco, zcp, zcq, zcr, zcs, zct, zcu, zcv, zcw, zcx, zcy, zcz, zda, zdb, zdc, zdd, zde, zdf, Option.getD_some, Option.getD_none, zet, zeu, zev, zew, zex, zey, zez, zfa, Option.map_some, Option.map_none, Option.bind_some, List.map_cons, List.map_nil, List.cons_append, List.nil_append, ↓reduceIte, Nat.reduceEqDiff, Nat.reduceAdd, decide_true, decide_false, Bool.true_eq_false, Bool.false_eq_true, env0, List.getElem?_cons_zero, List.getElem?_cons_succ, zdg, zdh, zdi, zdj, zdk, zdl, zdm, zdn, ia22, ld31, zdo, zdp, zeg, List.toList_toArray, len9, ix9, zeh, zei, zej, zek, zel, zdq, zdr, zds, zdt, zdu, zdv, zdw, zdx, zdy, zdz, zea, zeb, zec, fa_0, fa_1, zed, bd_0, bd_2, zee, fd_1, zef, Nat.zero_add, e1, j1, faT_0, faT_1, faT_2, faT_4, ldT_0, ldT_1, ldT_2, ldT_4, i_eqlV, Int.reduceBEq, den_loop]
      refine loop_ends (X := Nat) (fun i env s' => env 1 = .ptr 1 1 0 ∧ env 4 = .int .i64 (i : Int) ∧ s' 1 = ⟨1, .buf (cellsT (.mk 2 b lg l s m kg ks))⟩ ∧ i ≤ s.length ∧ (s.take i).all okC = true) (fun i => s.length - i) (fun _ => (.tree (.bool (s.all okC && (decide (1 ≤ s.length) && decide (s.length ≤ 40) && decide (ks.length = 0)))), [[]])) ?_ n 0 _ _ (by omega) ⟨(by first | (simp only [zfa, ↓reduceIte, Nat.reduceEqDiff, e1]; done) | (simp only [zfa, ↓reduceIte, Nat.reduceEqDiff, e1]; rfl)), (by first | (simp only [zfa, ↓reduceIte, Nat.reduceEqDiff]; done) | (simp only [zfa, ↓reduceIte, Nat.reduceEqDiff]; rfl)), by simp only [cellsT]; exact (by first | (simp only [zfa, ↓reduceIte, Nat.reduceEqDiff, j1]; done) | (simp only [zfa, ↓reduceIte, Nat.reduceEqDiff, j1]; rfl)), Nat.zero_le _, rfl⟩
      intro r i hx ih env st ⟨e1, e4, j1, hi, ha⟩
      simp only [cellsT] at j1
      by_cases hp : i = s.length
      · subst hp
        have q1 : ¬ ((s.length : Int) < (s.length : Int)) := by omega
        rw [List.take_length] at ha
        rw [ha, Bool.true_and]
        by_cases g1 : 1 ≤ s.length
        · have g1' : (s.length : Int) ≥ 1 := by omega
          rw [decide_eq_true g1, Bool.true_and]
          by_cases g2 : s.length ≤ 40
          · have g2' : (s.length : Int) ≤ 40 := by omega
            rw [decide_eq_true g2, Bool.true_and]
            simp only [zaa, zab, zac, zad, zae, zaf, zag, zah, zai, zaj, zak, zal, zam, zan, zao, zap, zaq, zar, zas, zat, zau, zav, zaw, zax, zay, zaz, zba, zbb, zbc, zbd, zbe, zbf, zbg, zbh, zbi, zbj, Nat.reduceBEq, Bool.or_self, Bool.or_false, Bool.or_true, Bool.and_true, Bool.and_false, Bool.true_and, Bool.false_and, Option.isNone_none, Option.isNone_some, Option.isSome_some, Option.isSome_none, zbk, zbl, zbm, zbn, zbo, zbp, zbq, zbr, zbs, zbt, zbu, zbv, zbw, zbx, zby, zbz, zca, zcb, zcc, zcd, zce, zcf, zcg, zch, zci, zcj, zck, zcl, zcm, zcn, zco, zcp, zcq, zcr, zcs, zct, zcu, zcv, zcw, zcx, zcy, zcz, zda, zdb, zdc, zdd, zde, zdf, Option.getD_some, Option.getD_none, zet, zeu, zev, zew, zex, zey, zez, zfa, Option.map_some, Option.map_none, Option.bind_some, List.map_cons, List.map_nil, List.cons_append, List.nil_append, ↓reduceIte, Nat.reduceEqDiff, Nat.reduceAdd, decide_true, decide_false, Bool.true_eq_false, Bool.false_eq_true, zdg, zdh, zdi, zdj, zdk, zdl, zdm, zdn, ia22, ld31, zdo, zdp, zeg, List.toList_toArray, len9, ix9, zeh, zei, zej, zek, zel, zdq, zdr, zds, zdt, zdu, zdv, zdw, zdx, zdy, zdz, zea, zeb, zec, fa_0, fa_1, zed, bd_0, bd_2, zee, fd_1, zef, Nat.zero_add, e1, e4, j1, faT_0, faT_2, faT_4, ldT_0, ldT_2, ldT_4, q1, g1', g2', lenTk, i_eqlV, natEq0]
            exact finish_b _ _ _ _ _ _ _ (by first | (simp only [zfa, ↓reduceIte, Nat.reduceEqDiff]; done) | (simp only [zfa, ↓reduceIte, Nat.reduceEqDiff]; rfl)) rfl
          · have g2' : ¬ (s.length : Int) ≤ 40 := by omega
            rw [decide_eq_false g2, Bool.false_and]
            simp only [zaa, zab, zac, zad, zae, zaf, zag, zah, zai, zaj, zak, zal, zam, zan, zao, zap, zaq, zar, zas, zat, zau, zav, zaw, zax, zay, zaz, zba, zbb, zbc, zbd, zbe, zbf, zbg, zbh, zbi, zbj, Nat.reduceBEq, Bool.or_self, Bool.or_false, Bool.or_true, Bool.and_true, Bool.and_false, Bool.true_and, Bool.false_and, Option.isNone_none, Option.isNone_some, Option.isSome_some, Option.isSome_none, zbk, zbl, zbm, zbn, zbo, zbp, zbq, zbr, zbs, zbt, zbu, zbv, zbw, zbx, zby, zbz, zca, zcb, zcc, zcd, zce, zcf, zcg, zch, zci, zcj, zck, zcl, zcm, zcn, zco, zcp, zcq, zcr, zcs, zct, zcu, zcv, zcw, zcx, zcy, zcz, zda, zdb, zdc, zdd, zde, zdf, Option.getD_some, Option.getD_none, zet, zeu, zev, zew, zex, zey, zez, zfa, Option.map_some, Option.map_none, Option.bind_some, List.map_cons, List.map_nil, List.cons_append, List.nil_append, ↓reduceIte, Nat.reduceEqDiff, Nat.reduceAdd, decide_true, decide_false, Bool.true_eq_false, Bool.false_eq_true, zdg, zdh, zdi, zdj, zdk, zdl, zdm, zdn, ia22, ld31, zdo, zdp, zeg, List.toList_toArray, len9, ix9, zeh, zei, zej, zek, zel, zdq, zdr, zds, zdt, zdu, zdv, zdw, zdx, zdy, zdz, zea, zeb, zec, fa_0, fa_1, zed, bd_0, bd_2, zee, fd_1, zef, Nat.zero_add, e1, e4, j1, faT_0, faT_2, faT_4, ldT_0, ldT_2, ldT_4, q1, g1', g2', lenTk, i_eqlV, natEq0]
            exact finish_b _ _ _ _ _ _ _ (by first | (simp only [zfa, ↓reduceIte, Nat.reduceEqDiff]; done) | (simp only [zfa, ↓reduceIte, Nat.reduceEqDiff]; rfl)) rfl
        · have g1' : ¬ (s.length : Int) ≥ 1 := by omega
          rw [decide_eq_false g1, Bool.false_and, Bool.false_and]
          simp only [zaa, zab, zac, zad, zae, zaf, zag, zah, zai, zaj, zak, zal, zam, zan, zao, zap, zaq, zar, zas, zat, zau, zav, zaw, zax, zay, zaz, zba, zbb, zbc, zbd, zbe, zbf, zbg, zbh, zbi, zbj, Nat.reduceBEq, Bool.or_self, Bool.or_false, Bool.or_true, Bool.and_true, Bool.and_false, Bool.true_and, Bool.false_and, Option.isNone_none, Option.isNone_some, Option.isSome_some, Option.isSome_none, zbk, zbl, zbm, zbn, zbo, zbp, zbq, zbr, zbs, zbt, zbu, zbv, zbw, zbx, zby, zbz, zca, zcb, zcc, zcd, zce, zcf, zcg, zch, zci, zcj, zck, zcl, zcm, zcn, zco, zcp, zcq, zcr, zcs, zct, zcu, zcv, zcw, zcx, zcy, zcz, zda, zdb, zdc, zdd, zde, zdf, Option.getD_some, Option.getD_none, zet, zeu, zev, zew, zex, zey, zez, zfa, Option.map_some, Option.map_none, Option.bind_some, List.map_cons, List.map_nil, List.cons_append, List.nil_append, ↓reduceIte, Nat.reduceEqDiff, Nat.reduceAdd, decide_true, decide_false, Bool.true_eq_false, Bool.false_eq_true, zdg, zdh, zdi, zdj, zdk, zdl, zdm, zdn, ia22, ld31, zdo, zdp, zeg, List.toList_toArray, len9, ix9, zeh, zei, zej, zek, zel, zdq, zdr, zds, zdt, zdu, zdv, zdw, zdx, zdy, zdz, zea, zeb, zec, fa_0, fa_1, zed, bd_0, bd_2, zee, fd_1, zef, Nat.zero_add, e1, e4, j1, faT_0, faT_2, faT_4, ldT_0, ldT_2, ldT_4, q1, g1', lenTk, i_eqlV, natEq0]
          exact finish_b _ _ _ _ _ _ _ (by first | (simp only [zfa, ↓reduceIte, Nat.reduceEqDiff]; done) | (simp only [zfa, ↓reduceIte, Nat.reduceEqDiff]; rfl)) rfl
      · have q1 : (i : Int) < (s.length : Int) := by omega
        have q2 : (0 : Int) ≤ (i : Int) ∧ (i : Int) < (s.length : Int) := by omega
        have f4 := i_add Tryd.prog 3 (i : Int) 1 (by omega) (by omega)
        have hst : s.take (i + 1) = s.take i ++ [s.getD i 0] := by
          rw [List.take_add_one, List.getD, List.getElem?_eq_getElem (by omega)]; rfl
        have ha1 : ∀ c, s.getD i 0 = c → okC c = true → (s.take (i + 1)).all okC = true := by
          intro c hc ho
          rw [hst, hc, List.all_append, ha]; simp [ho]
        have ha0 : ∀ c, s.getD i 0 = c → okC c = false → s.all okC = false := by
          intro c hc ho
          rw [List.all_eq_false]
          refine ⟨c, ?_, by rw [ho]; decide⟩
          rw [← hc, List.getD, List.getElem?_eq_getElem (by omega)]
          exact List.getElem_mem _
        generalize hc : s.getD i 0 = c at ha1 ha0
        replace ha1 := ha1 c rfl
        replace ha0 := ha0 c rfl
        by_cases c1 : (c.toNat : Int) < 33
        · rw [ha0 (by unfold okC; rw [decide_eq_false (by omega)]; rfl), Bool.false_and]
          simp only [zaa, zab, zac, zad, zae, zaf, zag, zah, zai, zaj, zak, zal, zam, zan, zao, zap, zaq, zar, zas, zat, zau, zav, zaw, zax, zay, zaz, zba, zbb, zbc, zbd, zbe, zbf, zbg, zbh, zbi, zbj, Nat.reduceBEq, Bool.or_self, Bool.or_false, Bool.or_true, Bool.and_true, Bool.and_false, Bool.true_and, Bool.false_and, Option.isNone_none, Option.isNone_some, Option.isSome_some, Option.isSome_none, zbk, zbl, zbm, zbn, zbo, zbp, zbq, zbr, zbs, zbt, zbu, zbv, zbw, zbx, zby, zbz, zca, zcb, zcc, zcd, zce, zcf, zcg, zch, zci, zcj, zck, zcl, zcm, zcn, zco, zcp, zcq, zcr, zcs, zct, zcu, zcv, zcw, zcx, zcy, zcz, zda, zdb, zdc, zdd, zde, zdf, Option.getD_some, Option.getD_none, zet, zeu, zev, zew, zex, zey, zez, zfa, Option.map_some, Option.map_none, Option.bind_some, List.map_cons, List.map_nil, List.cons_append, List.nil_append, ↓reduceIte, Nat.reduceEqDiff, Nat.reduceAdd, decide_true, decide_false, Bool.true_eq_false, Bool.false_eq_true, zdg, zdh, zdi, zdj, zdk, zdl, zdm, zdn, ia22, ld31, zdo, zdp, zeg, List.toList_toArray, len9, ix9, zeh, zei, zej, zek, zel, zdq, zdr, zds, zdt, zdu, zdv, zdw, zdx, zdy, zdz, zea, zeb, zec, fa_0, fa_1, zed, bd_0, bd_2, zee, fd_1, zef, Nat.zero_add, e1, e4, j1, faT_0, faT_2, faT_4, ldT_0, ldT_2, ldT_4, q1, q2, and_self, Int.toNat_natCast, hc, c1]
          exact finish_b _ _ _ _ _ _ _ (by first | (simp only [zfa, ↓reduceIte, Nat.reduceEqDiff]; done) | (simp only [zfa, ↓reduceIte, Nat.reduceEqDiff]; rfl)) rfl
        by_cases c2 : (c.toNat : Int) > 126
        · rw [ha0 (by unfold okC; rw [decide_eq_false (p := c.toNat ≤ 126) (by omega)]; simp), Bool.false_and]
          simp only [zaa, zab, zac, zad, zae, zaf, zag, zah, zai, zaj, zak, zal, zam, zan, zao, zap, zaq, zar, zas, zat, zau, zav, zaw, zax, zay, zaz, zba, zbb, zbc, zbd, zbe, zbf, zbg, zbh, zbi, zbj, Nat.reduceBEq, Bool.or_self, Bool.or_false, Bool.or_true, Bool.and_true, Bool.and_false, Bool.true_and, Bool.false_and, Option.isNone_none, Option.isNone_some, Option.isSome_some, Option.isSome_none, zbk, zbl, zbm, zbn, zbo, zbp, zbq, zbr, zbs, zbt, zbu, zbv, zbw, zbx, zby, zbz, zca, zcb, zcc, zcd, zce, zcf, zcg, zch, zci, zcj, zck, zcl, zcm, zcn, zco, zcp, zcq, zcr, zcs, zct, zcu, zcv, zcw, zcx, zcy, zcz, zda, zdb, zdc, zdd, zde, zdf, Option.getD_some, Option.getD_none, zet, zeu, zev, zew, zex, zey, zez, zfa, Option.map_some, Option.map_none, Option.bind_some, List.map_cons, List.map_nil, List.cons_append, List.nil_append, ↓reduceIte, Nat.reduceEqDiff, Nat.reduceAdd, decide_true, decide_false, Bool.true_eq_false, Bool.false_eq_true, zdg, zdh, zdi, zdj, zdk, zdl, zdm, zdn, ia22, ld31, zdo, zdp, zeg, List.toList_toArray, len9, ix9, zeh, zei, zej, zek, zel, zdq, zdr, zds, zdt, zdu, zdv, zdw, zdx, zdy, zdz, zea, zeb, zec, fa_0, fa_1, zed, bd_0, bd_2, zee, fd_1, zef, Nat.zero_add, e1, e4, j1, faT_0, faT_2, faT_4, ldT_0, ldT_2, ldT_4, q1, q2, and_self, Int.toNat_natCast, hc, c1, c2]
          exact finish_b _ _ _ _ _ _ _ (by first | (simp only [zfa, ↓reduceIte, Nat.reduceEqDiff]; done) | (simp only [zfa, ↓reduceIte, Nat.reduceEqDiff]; rfl)) rfl
        · have ha1 := ha1 (by unfold okC; rw [decide_eq_true (by omega), decide_eq_true (by omega)]; rfl)
          simp only [zaa, zab, zac, zad, zae, zaf, zag, zah, zai, zaj, zak, zal, zam, zan, zao, zap, zaq, zar, zas, zat, zau, zav, zaw, zax, zay, zaz, zba, zbb, zbc, zbd, zbe, zbf, zbg, zbh, zbi, zbj, Nat.reduceBEq, Bool.or_self, Bool.or_false, Bool.or_true, Bool.and_true, Bool.and_false, Bool.true_and, Bool.false_and, Option.isNone_none, Option.isNone_some, Option.isSome_some, Option.isSome_none, zbk, zbl, zbm, zbn, zbo, zbp, zbq, zbr, zbs, zbt, zbu, zbv, zbw, zbx, zby, zbz, zca, zcb, zcc, zcd, zce, zcf, zcg, zch, zci, zcj, zck, zcl, zcm, zcn, zco, zcp, zcq, zcr, zcs, zct, zcu, zcv, zcw, zcx, zcy, zcz, zda, zdb, zdc, zdd, zde, zdf, Option.getD_some, Option.getD_none, zet, zeu, zev, zew, zex, zey, zez, zfa, Option.map_some, Option.map_none, Option.bind_some, List.map_cons, List.map_nil, List.cons_append, List.nil_append, ↓reduceIte, Nat.reduceEqDiff, Nat.reduceAdd, decide_true, decide_false, Bool.true_eq_false, Bool.false_eq_true, zdg, zdh, zdi, zdj, zdk, zdl, zdm, zdn, ia22, ld31, zdo, zdp, zeg, List.toList_toArray, len9, ix9, zeh, zei, zej, zek, zel, zdq, zdr, zds, zdt, zdu, zdv, zdw, zdx, zdy, zdz, zea, zeb, zec, fa_0, fa_1, zed, bd_0, bd_2, zee, fd_1, zef, Nat.zero_add, e1, e4, j1, faT_0, faT_2, faT_4, ldT_0, ldT_2, ldT_4, q1, q2, and_self, Int.toNat_natCast, hc, c1, c2, f4]
          exact ih (i + 1) _ _ (by omega) rfl ⟨(by first | (simp only [zfa, ↓reduceIte, Nat.reduceEqDiff, e1]; done) | (simp only [zfa, ↓reduceIte, Nat.reduceEqDiff, e1]; rfl)), (by first | (simp only [zfa, ↓reduceIte, Nat.reduceEqDiff]; done) | (simp only [zfa, ↓reduceIte, Nat.reduceEqDiff]; rfl)), by simp only [cellsT]; exact (by first | (simp only [zfa, ↓reduceIte, Nat.reduceEqDiff, j1]; done) | (simp only [zfa, ↓reduceIte, Nat.reduceEqDiff, j1]; rfl)), by omega, ha1⟩
    have b2 : (k == 2) = false := beq_eq_false_iff_ne.mpr h2
    by_cases h3 : k = 3
    · subst h3
      simp only [Int.reduceEq, ↓reduceIte]
      simp only [zaa, zab, zac, zad, zae, zaf, zag, zah, zai, zaj, zak, zal, zam, zan, zao, zap, zaq, zar, zas, zat, zau, zav, zaw, zax, zay, zaz, zba, zbb, zbc, zbd, zbe, zbf, zbg, zbh, zbi, zbj, Nat.reduceBEq, Bool.or_self, Bool.or_false, Bool.or_true, Bool.and_true, Bool.and_false, Bool.true_and, Bool.false_and, Option.isNone_none, Option.isNone_some, Option.isSome_some, Option.isSome_none, zbk, zbl, zbm, zbn, zbo, zbp, zbq, zbr, zbs, zbt, zbu, zbv, zbw, zbx, zby, zbz, zca, zcb, zcc, zcd, zce, zcf, zcg, zch, zci, zcj, zck, zcl, zcm, zcn, zco, zcp, zcq, zcr, zcs, zct, zcu, zcv, zcw, zcx, zcy, zcz, zda, zdb, zdc, zdd, zde, zdf, Option.getD_some, Option.getD_none, zet, zeu, zev, zew, zex, zey, zez, zfa, Option.map_some, Option.map_none, Option.bind_some, List.map_cons, List.map_nil, List.cons_append, List.nil_append, ↓reduceIte, Nat.reduceEqDiff, Nat.reduceAdd, decide_true, decide_false, Bool.true_eq_false, Bool.false_eq_true, env0, List.getElem?_cons_zero, List.getElem?_cons_succ, zdg, zdh, zdi, zdj, zdk, zdl, zdm, zdn, ia22, ld31, zdo, zdp, zeg, List.toList_toArray, len9, ix9, zeh, zei, zej, zek, zel, zdq, zdr, zds, zdt, zdu, zdv, zdw, zdx, zdy, zdz, zea, zeb, zec, fa_0, fa_1, zed, bd_0, bd_2, zee, fd_1, zef, Nat.zero_add, e1, j1, faT_0, faT_4, ldT_0, ldT_4, lenTk, natEq0, i_eqlV, Int.reduceBEq]
      exact finish_b _ _ _ _ _ _ _ (by first | (simp only [zfa, ↓reduceIte, Nat.reduceEqDiff]; done) | (simp only [zfa, ↓reduceIte, Nat.reduceEqDiff]; rfl)) rfl
    have b3 : (k == 3) = false := beq_eq_false_iff_ne.mpr h3
    by_cases h4 : k = 4
    · subst h4
      simp only [Int.reduceEq, ↓reduceIte]
      simp only [zaa, zab, zac, zad, zae, zaf, zag, zah, zai, zaj, zak, zal, zam, zan, zao, zap, zaq, zar, zas, zat, zau, zav, zaw, zax, zay, zaz, zba, zbb, zbc, zbd, zbe, zbf, zbg, zbh, zbi, zbj, Nat.reduceBEq, Bool.or_self, Bool.or_false, Bool.or_true, Bool.and_true, Bool.and_false, Bool.true_and, Bool.false_and, Option.isNone_none, Option.isNone_some, Option.isSome_some, Option.isSome_none, zbk, zbl, zbm, zbn, zbo, zbp, zbq, zbr, zbs, zbt, zbu, zbv, zbw, zbx, zby, zbz, zca, zcb, zcc, zcd, zce, zcf, zcg, zch, zci, zcj, zck, zcl, zcm, zcn, zco, zcp, zcq, zcr, zcs, zct, zcu, zcv, zcw, zcx, zcy, zcz, zda, zdb, zdc, zdd, zde, zdf, Option.getD_some, Option.getD_none, zet, zeu, zev, zew, zex, zey, zez, zfa, Option.map_some, Option.map_none, Option.bind_some, List.map_cons, List.map_nil, List.cons_append, List.nil_append, ↓reduceIte, Nat.reduceEqDiff, Nat.reduceAdd, decide_true, decide_false, Bool.true_eq_false, Bool.false_eq_true, env0, List.getElem?_cons_zero, List.getElem?_cons_succ, zdg, zdh, zdi, zdj, zdk, zdl, zdm, zdn, ia22, ld31, zdo, zdp, zeg, List.toList_toArray, len9, ix9, zeh, zei, zej, zek, zel, zdq, zdr, zds, zdt, zdu, zdv, zdw, zdx, zdy, zdz, zea, zeb, zec, fa_0, fa_1, zed, bd_0, bd_2, zee, fd_1, zef, Nat.zero_add, e1, j1, faT_0, faT_4, ldT_0, ldT_4, lenTk, natEq2, i_eqlV, Int.reduceBEq]
      exact finish_b _ _ _ _ _ _ _ (by first | (simp only [zfa, ↓reduceIte, Nat.reduceEqDiff]; done) | (simp only [zfa, ↓reduceIte, Nat.reduceEqDiff]; rfl)) rfl
    have b4 : (k == 4) = false := beq_eq_false_iff_ne.mpr h4
    by_cases h5 : k = 5
    · subst h5
      have e40 : decide (ks.length ≤ 40) = decide ((ks.length : Int) ≤ 40) := by rw [Bool.eq_iff_iff, decide_eq_true_eq, decide_eq_true_eq]; omega
      simp only [Int.reduceEq, ↓reduceIte, e40]
      simp only [zaa, zab, zac, zad, zae, zaf, zag, zah, zai, zaj, zak, zal, zam, zan, zao, zap, zaq, zar, zas, zat, zau, zav, zaw, zax, zay, zaz, zba, zbb, zbc, zbd, zbe, zbf, zbg, zbh, zbi, zbj, Nat.reduceBEq, Bool.or_self, Bool.or_false, Bool.or_true, Bool.and_true, Bool.and_false, Bool.true_and, Bool.false_and, Option.isNone_none, Option.isNone_some, Option.isSome_some, Option.isSome_none, zbk, zbl, zbm, zbn, zbo, zbp, zbq, zbr, zbs, zbt, zbu, zbv, zbw, zbx, zby, zbz, zca, zcb, zcc, zcd, zce, zcf, zcg, zch, zci, zcj, zck, zcl, zcm, zcn, zco, zcp, zcq, zcr, zcs, zct, zcu, zcv, zcw, zcx, zcy, zcz, zda, zdb, zdc, zdd, zde, zdf, Option.getD_some, Option.getD_none, zet, zeu, zev, zew, zex, zey, zez, zfa, Option.map_some, Option.map_none, Option.bind_some, List.map_cons, List.map_nil, List.cons_append, List.nil_append, ↓reduceIte, Nat.reduceEqDiff, Nat.reduceAdd, decide_true, decide_false, Bool.true_eq_false, Bool.false_eq_true, env0, List.getElem?_cons_zero, List.getElem?_cons_succ, zdg, zdh, zdi, zdj, zdk, zdl, zdm, zdn, ia22, ld31, zdo, zdp, zeg, List.toList_toArray, len9, ix9, zeh, zei, zej, zek, zel, zdq, zdr, zds, zdt, zdu, zdv, zdw, zdx, zdy, zdz, zea, zeb, zec, fa_0, fa_1, zed, bd_0, bd_2, zee, fd_1, zef, Nat.zero_add, e1, j1, faT_0, faT_4, ldT_0, ldT_4, lenTk, i_eqlV, i_leqV, Int.reduceBEq]
      exact finish_b _ _ _ _ _ _ _ (by first | (simp only [zfa, ↓reduceIte, Nat.reduceEqDiff]; done) | (simp only [zfa, ↓reduceIte, Nat.reduceEqDiff]; rfl)) rfl
    have b5 : (k == 5) = false := beq_eq_false_iff_ne.mpr h5
    by_cases h6 : k = 6
    · subst h6
      simp only [Int.reduceEq, ↓reduceIte]
      by_cases g : s.length ≤ 400
      · have g' : (s.length : Int) ≤ 400 := by omega
        rw [decide_eq_true g, Bool.true_and]
        simp only [zaa, zab, zac, zad, zae, zaf, zag, zah, zai, zaj, zak, zal, zam, zan, zao, zap, zaq, zar, zas, zat, zau, zav, zaw, zax, zay, zaz, zba, zbb, zbc, zbd, zbe, zbf, zbg, zbh, zbi, zbj, Nat.reduceBEq, Bool.or_self, Bool.or_false, Bool.or_true, Bool.and_true, Bool.and_false, Bool.true_and, Bool.false_and, Option.isNone_none, Option.isNone_some, Option.isSome_some, Option.isSome_none, zbk, zbl, zbm, zbn, zbo, zbp, zbq, zbr, zbs, zbt, zbu, zbv, zbw, zbx, zby, zbz, zca, zcb, zcc, zcd, zce, zcf, zcg, zch, zci, zcj, zck, zcl, zcm, zcn, zco, zcp, zcq, zcr, zcs, zct, zcu, zcv, zcw, zcx, zcy, zcz, zda, zdb, zdc, zdd, zde, zdf, Option.getD_some, Option.getD_none, zet, zeu, zev, zew, zex, zey, zez, zfa, Option.map_some, Option.map_none, Option.bind_some, List.map_cons, List.map_nil, List.cons_append, List.nil_append, ↓reduceIte, Nat.reduceEqDiff, Nat.reduceAdd, decide_true, decide_false, Bool.true_eq_false, Bool.false_eq_true, env0, List.getElem?_cons_zero, List.getElem?_cons_succ, zdg, zdh, zdi, zdj, zdk, zdl, zdm, zdn, ia22, ld31, zdo, zdp, zeg, List.toList_toArray, len9, ix9, zeh, zei, zej, zek, zel, zdq, zdr, zds, zdt, zdu, zdv, zdw, zdx, zdy, zdz, zea, zeb, zec, fa_0, fa_1, zed, bd_0, bd_2, zee, fd_1, zef, Nat.zero_add, e1, j1, faT_0, faT_2, faT_4, ldT_0, ldT_2, ldT_4, lenTk, natEq0, i_eqlV, Int.reduceBEq, g']
        exact finish_b _ _ _ _ _ _ _ (by first | (simp only [zfa, ↓reduceIte, Nat.reduceEqDiff]; done) | (simp only [zfa, ↓reduceIte, Nat.reduceEqDiff]; rfl)) rfl
      · have g' : ¬ (s.length : Int) ≤ 400 := by omega
        rw [decide_eq_false g, Bool.false_and]
        simp only [zaa, zab, zac, zad, zae, zaf, zag, zah, zai, zaj, zak, zal, zam, zan, zao, zap, zaq, zar, zas, zat, zau, zav, zaw, zax, zay, zaz, zba, zbb, zbc, zbd, zbe, zbf, zbg, zbh, zbi, zbj, Nat.reduceBEq, Bool.or_self, Bool.or_false, Bool.or_true, Bool.and_true, Bool.and_false, Bool.true_and, Bool.false_and, Option.isNone_none, Option.isNone_some, Option.isSome_some, Option.isSome_none, zbk, zbl, zbm, zbn, zbo, zbp, zbq, zbr, zbs, zbt, zbu, zbv, zbw, zbx, zby, zbz, zca, zcb, zcc, zcd, zce, zcf, zcg, zch, zci, zcj, zck, zcl, zcm, zcn, zco, zcp, zcq, zcr, zcs, zct, zcu, zcv, zcw, zcx, zcy, zcz, zda, zdb, zdc, zdd, zde, zdf, Option.getD_some, Option.getD_none, zet, zeu, zev, zew, zex, zey, zez, zfa, Option.map_some, Option.map_none, Option.bind_some, List.map_cons, List.map_nil, List.cons_append, List.nil_append, ↓reduceIte, Nat.reduceEqDiff, Nat.reduceAdd, decide_true, decide_false, Bool.true_eq_false, Bool.false_eq_true, env0, List.getElem?_cons_zero, List.getElem?_cons_succ, zdg, zdh, zdi, zdj, zdk, zdl, zdm, zdn, ia22, ld31, zdo, zdp, zeg, List.toList_toArray, len9, ix9, zeh, zei, zej, zek, zel, zdq, zdr, zds, zdt, zdu, zdv, zdw, zdx, zdy, zdz, zea, zeb, zec, fa_0, fa_1, zed, bd_0, bd_2, zee, fd_1, zef, Nat.zero_add, e1, j1, faT_0, faT_2, faT_4, ldT_0, ldT_2, ldT_4, lenTk, natEq0, i_eqlV, Int.reduceBEq, g']
        exact finish_b _ _ _ _ _ _ _ (by first | (simp only [zfa, ↓reduceIte, Nat.reduceEqDiff]; done) | (simp only [zfa, ↓reduceIte, Nat.reduceEqDiff]; rfl)) rfl
    have b6 : (k == 6) = false := beq_eq_false_iff_ne.mpr h6
    simp only [h1, h2, h3, h4, h5, h6, ↓reduceIte]
    simp only [zaa, zab, zac, zad, zae, zaf, zag, zah, zai, zaj, zak, zal, zam, zan, zao, zap, zaq, zar, zas, zat, zau, zav, zaw, zax, zay, zaz, zba, zbb, zbc, zbd, zbe, zbf, zbg, zbh, zbi, zbj, Nat.reduceBEq, Bool.or_self, Bool.or_false, Bool.or_true, Bool.and_true, Bool.and_false, Bool.true_and, Bool.false_and, Option.isNone_none, Option.isNone_some, Option.isSome_some, Option.isSome_none, zbk, zbl, zbm, zbn, zbo, zbp, zbq, zbr, zbs, zbt, zbu, zbv, zbw, zbx, zby, zbz, zca, zcb, zcc, zcd, zce, zcf, zcg, zch, zci, zcj, zck, zcl, zcm, zcn, zco, zcp, zcq, zcr, zcs, zct, zcu, zcv, zcw, zcx, zcy, zcz, zda, zdb, zdc, zdd, zde, zdf, Option.getD_some, Option.getD_none, zet, zeu, zev, zew, zex, zey, zez, zfa, Option.map_some, Option.map_none, Option.bind_some, List.map_cons, List.map_nil, List.cons_append, List.nil_append, ↓reduceIte, Nat.reduceEqDiff, Nat.reduceAdd, decide_true, decide_false, Bool.true_eq_false, Bool.false_eq_true, env0, List.getElem?_cons_zero, List.getElem?_cons_succ, zdg, zdh, zdi, zdj, zdk, zdl, zdm, zdn, ia22, ld31, zdo, zdp, zeg, List.toList_toArray, len9, ix9, zeh, zei, zej, zek, zel, zdq, zdr, zds, zdt, zdu, zdv, zdw, zdx, zdy, zdz, zea, zeb, zec, fa_0, fa_1, zed, bd_0, bd_2, zee, fd_1, zef, Nat.zero_add, e1, j1, faT_0, faT_4, ldT_0, ldT_4, i_eqlV, b1, b2, b3, b4, b5, b6]
    exact finish_b _ _ _ _ _ _ _ (by first | (simp only [zfa, ↓reduceIte, Nat.reduceEqDiff]; done) | (simp only [zfa, ↓reduceIte, Nat.reduceEqDiff]; rfl)) rfl
  · intro K hN hR hE
    refine seq_cut (fun env st => env 1 = .ptr 1 1 0 ∧ st 1 = ⟨1, .buf (cellsT (.mk k b lg l s m kg ks))⟩ ∧ env 3 = .bool (zeroB b l)) ?_ ?_
    · intro env st ⟨e1, j1, e3⟩
      have j1' := j1
      simp only [cellsT] at j1
      unfold badT at hN ⊢
      generalize zeroB b l = z at hN e3 ⊢
      cases x1 : (m != 0) with
      | true =>
        rw [Bool.true_or, Bool.true_or, Bool.not_true, Bool.false_and]
        simp only [zaa, zab, zac, zad, zae, zaf, zag, zah, zai, zaj, zak, zal, zam, zan, zao, zap, zaq, zar, zas, zat, zau, zav, zaw, zax, zay, zaz, zba, zbb, zbc, zbd, zbe, zbf, zbg, zbh, zbi, zbj, Nat.reduceBEq, Bool.or_self, Bool.or_false, Bool.or_true, Bool.and_true, Bool.and_false, Bool.true_and, Bool.false_and, Option.isNone_none, Option.isNone_some, Option.isSome_some, Option.isSome_none, zbk, zbl, zbm, zbn, zbo, zbp, zbq, zbr, zbs, zbt, zbu, zbv, zbw, zbx, zby, zbz, zca, zcb, zcc, zcd, zce, zcf, zcg, zch, zci, zcj, zck, zcl, zcm, zcn, zco, zcp, zcq, zcr, zcs, zct, zcu, zcv, zcw, zcx, zcy, zcz, zda, zdb, zdc, zdd, zde, zdf, Option.getD_some, Option.getD_none, zet, zeu, zev, zew, zex, zey, zez, zfa, Option.map_some, Option.map_none, Option.bind_some, List.map_cons, List.map_nil, List.cons_append, List.nil_append, ↓reduceIte, Nat.reduceEqDiff, Nat.reduceAdd, decide_true, decide_false, Bool.true_eq_false, Bool.false_eq_true, env0, List.getElem?_cons_zero, List.getElem?_cons_succ, zdg, zdh, zdi, zdj, zdk, zdl, zdm, zdn, ia22, ld31, zdo, zdp, zeg, List.toList_toArray, len9, ix9, zeh, zei, zej, zek, zel, zdq, zdr, zds, zdt, zdu, zdv, zdw, zdx, zdy, zdz, zea, zeb, zec, fa_0, fa_1, zed, bd_0, bd_2, zee, fd_1, zef, Nat.zero_add, e1, j1, e3, faT_0, faT_2, faT_3, ldT_0, ldT_2, ldT_3, i_neqV, x1, hR]
        exact finish_b _ _ _ _ _ _ _ (by first | (simp only [zfa, ↓reduceIte, Nat.reduceEqDiff]; done) | (simp only [zfa, ↓reduceIte, Nat.reduceEqDiff]; rfl)) rfl
      | false =>
        have hx : ((k != 1) && !z) = true ∨ ((k != 1) && !z) = false := by cases ((k != 1) && !z) <;> simp
        rcases hx with hx | hx
        · rw [hx, Bool.or_true, Bool.true_or, Bool.not_true, Bool.false_and]
          rw [Bool.and_eq_true] at hx
          have hz : z = false := by cases z <;> simp_all
          subst hz
          simp only [zaa, zab, zac, zad, zae, zaf, zag, zah, zai, zaj, zak, zal, zam, zan, zao, zap, zaq, zar, zas, zat, zau, zav, zaw, zax, zay, zaz, zba, zbb, zbc, zbd, zbe, zbf, zbg, zbh, zbi, zbj, Nat.reduceBEq, Bool.or_self, Bool.or_false, Bool.or_true, Bool.and_true, Bool.and_false, Bool.true_and, Bool.false_and, Option.isNone_none, Option.isNone_some, Option.isSome_some, Option.isSome_none, zbk, zbl, zbm, zbn, zbo, zbp, zbq, zbr, zbs, zbt, zbu, zbv, zbw, zbx, zby, zbz, zca, zcb, zcc, zcd, zce, zcf, zcg, zch, zci, zcj, zck, zcl, zcm, zcn, zco, zcp, zcq, zcr, zcs, zct, zcu, zcv, zcw, zcx, zcy, zcz, zda, zdb, zdc, zdd, zde, zdf, Option.getD_some, Option.getD_none, zet, zeu, zev, zew, zex, zey, zez, zfa, Option.map_some, Option.map_none, Option.bind_some, List.map_cons, List.map_nil, List.cons_append, List.nil_append, ↓reduceIte, Nat.reduceEqDiff, Nat.reduceAdd, decide_true, decide_false, Bool.true_eq_false, Bool.false_eq_true, env0, List.getElem?_cons_zero, List.getElem?_cons_succ, zdg, zdh, zdi, zdj, zdk, zdl, zdm, zdn, ia22, ld31, zdo, zdp, zeg, List.toList_toArray, len9, ix9, zeh, zei, zej, zek, zel, zdq, zdr, zds, zdt, zdu, zdv, zdw, zdx, zdy, zdz, zea, zeb, zec, fa_0, fa_1, zed, bd_0, bd_2, zee, fd_1, zef, Nat.zero_add, e1, j1, e3, faT_0, faT_2, faT_3, ldT_0, ldT_2, ldT_3, i_neqV, x1, hx.1, unA_not', Bool.not_false, hR]
          exact finish_b _ _ _ _ _ _ _ (by first | (simp only [zfa, ↓reduceIte, Nat.reduceEqDiff]; done) | (simp only [zfa, ↓reduceIte, Nat.reduceEqDiff]; rfl)) rfl
        · rw [x1, hx, Bool.or_self, Bool.false_or] at hN
          rw [hx, Bool.or_self, Bool.false_or]
          cases x4 : (k != 2) <;> cases x5 : (k != 6) <;> cases x6 : (s == []) <;> rw [x4, x5, x6] at hN <;> simp only [Bool.true_and, Bool.false_and, Bool.and_true, Bool.and_false, Bool.not_true, Bool.not_false] at hN ⊢ <;> cases x2 : (k != 1) <;> cases z <;> first
            | (exfalso; rw [x2] at hx; exact absurd hx (by decide))
            | (simp only [zaa, zab, zac, zad, zae, zaf, zag, zah, zai, zaj, zak, zal, zam, zan, zao, zap, zaq, zar, zas, zat, zau, zav, zaw, zax, zay, zaz, zba, zbb, zbc, zbd, zbe, zbf, zbg, zbh, zbi, zbj, Nat.reduceBEq, Bool.or_self, Bool.or_false, Bool.or_true, Bool.and_true, Bool.and_false, Bool.true_and, Bool.false_and, Option.isNone_none, Option.isNone_some, Option.isSome_some, Option.isSome_none, zbk, zbl, zbm, zbn, zbo, zbp, zbq, zbr, zbs, zbt, zbu, zbv, zbw, zbx, zby, zbz, zca, zcb, zcc, zcd, zce, zcf, zcg, zch, zci, zcj, zck, zcl, zcm, zcn, zco, zcp, zcq, zcr, zcs, zct, zcu, zcv, zcw, zcx, zcy, zcz, zda, zdb, zdc, zdd, zde, zdf, Option.getD_some, Option.getD_none, zet, zeu, zev, zew, zex, zey, zez, zfa, Option.map_some, Option.map_none, Option.bind_some, List.map_cons, List.map_nil, List.cons_append, List.nil_append, ↓reduceIte, Nat.reduceEqDiff, Nat.reduceAdd, decide_true, decide_false, Bool.true_eq_false, Bool.false_eq_true, env0, List.getElem?_cons_zero, List.getElem?_cons_succ, zdg, zdh, zdi, zdj, zdk, zdl, zdm, zdn, ia22, ld31, zdo, zdp, zeg, List.toList_toArray, len9, ix9, zeh, zei, zej, zek, zel, zdq, zdr, zds, zdt, zdu, zdv, zdw, zdx, zdy, zdz, zea, zeb, zec, fa_0, fa_1, zed, bd_0, bd_2, zee, fd_1, zef, Nat.zero_add, e1, j1, e3, faT_0, faT_2, faT_3, ldT_0, ldT_2, ldT_3, i_neqV, x1, x2, x4, x5, x6, unA_not', Bool.not_false, Bool.not_true, hR]
               exact finish_b _ _ _ _ _ _ _ (by first | (simp only [zfa, ↓reduceIte, Nat.reduceEqDiff]; done) | (simp only [zfa, ↓reduceIte, Nat.reduceEqDiff]; rfl)) rfl)
            | (simp only [zaa, zab, zac, zad, zae, zaf, zag, zah, zai, zaj, zak, zal, zam, zan, zao, zap, zaq, zar, zas, zat, zau, zav, zaw, zax, zay, zaz, zba, zbb, zbc, zbd, zbe, zbf, zbg, zbh, zbi, zbj, Nat.reduceBEq, Bool.or_self, Bool.or_false, Bool.or_true, Bool.and_true, Bool.and_false, Bool.true_and, Bool.false_and, Option.isNone_none, Option.isNone_some, Option.isSome_some, Option.isSome_none, zbk, zbl, zbm, zbn, zbo, zbp, zbq, zbr, zbs, zbt, zbu, zbv, zbw, zbx, zby, zbz, zca, zcb, zcc, zcd, zce, zcf, zcg, zch, zci, zcj, zck, zcl, zcm, zcn, zco, zcp, zcq, zcr, zcs, zct, zcu, zcv, zcw, zcx, zcy, zcz, zda, zdb, zdc, zdd, zde, zdf, Option.getD_some, Option.getD_none, zet, zeu, zev, zew, zex, zey, zez, zfa, Option.map_some, Option.map_none, Option.bind_some, List.map_cons, List.map_nil, List.cons_append, List.nil_append, ↓reduceIte, Nat.reduceEqDiff, Nat.reduceAdd, decide_true, decide_false, Bool.true_eq_false, Bool.false_eq_true, env0, List.getElem?_cons_zero, List.getElem?_cons_succ, zdg, zdh, zdi, zdj, zdk, zdl, zdm, zdn, ia22, ld31, zdo, zdp, zeg, List.toList_toArray, len9, ix9, zeh, zei, zej, zek, zel, zdq, zdr, zds, zdt, zdu, zdv, zdw, zdx, zdy, zdz, zea, zeb, zec, fa_0, fa_1, zed, bd_0, bd_2, zee, fd_1, zef, Nat.zero_add, e1, j1, e3, faT_0, faT_2, faT_3, ldT_0, ldT_2, ldT_3, i_neqV, x1, x2, x4, x5, x6, unA_not', Bool.not_false, Bool.not_true, hR]
               exact hN _ _ ⟨(by first | (simp only [zfa, ↓reduceIte, Nat.reduceEqDiff, e1]; done) | (simp only [zfa, ↓reduceIte, Nat.reduceEqDiff, e1]; rfl)), (by first | (simp only [zfa, ↓reduceIte, Nat.reduceEqDiff, j1']; done) | (simp only [zfa, ↓reduceIte, Nat.reduceEqDiff, j1']; rfl)), trivial⟩)
    · intro K2 hN2 hR2 hE2
      unfold zeroB at hN2
      have e : ((l.length : Int) == 0) = decide (l.length = 0) := by rw [Bool.eq_iff_iff, beq_iff_eq, decide_eq_true_eq]; omega
      cases hy : decide (l.length = 0) with
      | true =>
        rw [hy] at e hN2
        simp only [zaa, zab, zac, zad, zae, zaf, zag, zah, zai, zaj, zak, zal, zam, zan, zao, zap, zaq, zar, zas, zat, zau, zav, zaw, zax, zay, zaz, zba, zbb, zbc, zbd, zbe, zbf, zbg, zbh, zbi, zbj, Nat.reduceBEq, Bool.or_self, Bool.or_false, Bool.or_true, Bool.and_true, Bool.and_false, Bool.true_and, Bool.false_and, Option.isNone_none, Option.isNone_some, Option.isSome_some, Option.isSome_none, zbk, zbl, zbm, zbn, zbo, zbp, zbq, zbr, zbs, zbt, zbu, zbv, zbw, zbx, zby, zbz, zca, zcb, zcc, zcd, zce, zcf, zcg, zch, zci, zcj, zck, zcl, zcm, zcn, zco, zcp, zcq, zcr, zcs, zct, zcu, zcv, zcw, zcx, zcy, zcz, zda, zdb, zdc, zdd, zde, zdf, Option.getD_some, Option.getD_none, zet, zeu, zev, zew, zex, zey, zez, zfa, Option.map_some, Option.map_none, Option.bind_some, List.map_cons, List.map_nil, List.cons_append, List.nil_append, ↓reduceIte, Nat.reduceEqDiff, Nat.reduceAdd, decide_true, decide_false, Bool.true_eq_false, Bool.false_eq_true, env0, List.getElem?_cons_zero, List.getElem?_cons_succ, zdg, zdh, zdi, zdj, zdk, zdl, zdm, zdn, ia22, ld31, zdo, zdp, zeg, List.toList_toArray, len9, ix9, zeh, zei, zej, zek, zel, zdq, zdr, zds, zdt, zdu, zdv, zdw, zdx, zdy, zdz, zea, zeb, zec, fa_0, fa_1, zed, bd_0, bd_2, zee, fd_1, zef, Nat.zero_add, encT, cellsT, faT_1, faN_0, faN_1, ldB_1, ldB_2, Nat.reduceAdd, i_eqlV, e, unA_not']
        exact hN2 _ _ ⟨(by first | (simp only [zfa, ↓reduceIte, Nat.reduceEqDiff]; done) | (simp only [zfa, ↓reduceIte, Nat.reduceEqDiff]; rfl)), by simp only [cellsT]; exact (by first | (simp only [zfa, ↓reduceIte, Nat.reduceEqDiff]; done) | (simp only [zfa, ↓reduceIte, Nat.reduceEqDiff]; rfl)), by simp only [zfa, ↓reduceIte, Nat.reduceEqDiff, Bool.and_true]⟩
      | false =>
        rw [hy] at e hN2
        simp only [zaa, zab, zac, zad, zae, zaf, zag, zah, zai, zaj, zak, zal, zam, zan, zao, zap, zaq, zar, zas, zat, zau, zav, zaw, zax, zay, zaz, zba, zbb, zbc, zbd, zbe, zbf, zbg, zbh, zbi, zbj, Nat.reduceBEq, Bool.or_self, Bool.or_false, Bool.or_true, Bool.and_true, Bool.and_false, Bool.true_and, Bool.false_and, Option.isNone_none, Option.isNone_some, Option.isSome_some, Option.isSome_none, zbk, zbl, zbm, zbn, zbo, zbp, zbq, zbr, zbs, zbt, zbu, zbv, zbw, zbx, zby, zbz, zca, zcb, zcc, zcd, zce, zcf, zcg, zch, zci, zcj, zck, zcl, zcm, zcn, zco, zcp, zcq, zcr, zcs, zct, zcu, zcv, zcw, zcx, zcy, zcz, zda, zdb, zdc, zdd, zde, zdf, Option.getD_some, Option.getD_none, zet, zeu, zev, zew, zex, zey, zez, zfa, Option.map_some, Option.map_none, Option.bind_some, List.map_cons, List.map_nil, List.cons_append, List.nil_append, ↓reduceIte, Nat.reduceEqDiff, Nat.reduceAdd, decide_true, decide_false, Bool.true_eq_false, Bool.false_eq_true, env0, List.getElem?_cons_zero, List.getElem?_cons_succ, zdg, zdh, zdi, zdj, zdk, zdl, zdm, zdn, ia22, ld31, zdo, zdp, zeg, List.toList_toArray, len9, ix9, zeh, zei, zej, zek, zel, zdq, zdr, zds, zdt, zdu, zdv, zdw, zdx, zdy, zdz, zea, zeb, zec, fa_0, fa_1, zed, bd_0, bd_2, zee, fd_1, zef, Nat.zero_add, encT, cellsT, faT_1, faN_0, faN_1, ldB_1, ldB_2, Nat.reduceAdd, i_eqlV, e, unA_not']
        exact hN2 _ _ ⟨(by first | (simp only [zfa, ↓reduceIte, Nat.reduceEqDiff]; done) | (simp only [zfa, ↓reduceIte, Nat.reduceEqDiff]; rfl)), by simp only [cellsT]; exact (by first | (simp only [zfa, ↓reduceIte, Nat.reduceEqDiff]; done) | (simp only [zfa, ↓reduceIte, Nat.reduceEqDiff]; rfl)), by simp only [zfa, ↓reduceIte, Nat.reduceEqDiff, Bool.and_false]⟩
end Go.Ab

/- What the abstract run gives, it gives with more rounds and more depth too. No conditions. -/
namespace Go.Ab
section
variable {P : Program} {cfg : Cfg} {call call' : FuncId → List Arg → Option Out}
def Less (call call' : FuncId → List Arg → Option Out) : Prop := ∀ f as1 r, call f as1 = some r → call' f as1 = some r
theorem callA_mono (h : Less call call') {d : Nat} {s : St} {f : FuncId} {vs : List AV} {r : AV × St} (hc : callA cfg call d s f vs = some r) : callA cfg call' d s f vs = some r := by
  unfold callA at hc ⊢
  cases ha : argsA cfg f s 0 vs with
  | none => rw [ha] at hc; cases hc
  | some as1 =>
    rw [ha] at hc
    simp only [Option.bind_some] at hc ⊢
    split at hc
    · rename_i hg
      rw [if_pos hg]
      cases hcc : call f as1 with
      | none => rw [hcc] at hc; cases hc
      | some o => rw [hcc] at hc; rw [h _ _ _ hcc]; exact hc
    · cases hc
theorem callQ_mono (h : Less call call') {f : FuncId} {vs : List AV} {r : AV} (hc : callQ call f vs = some r) : callQ call' f vs = some r := by
  unfold callQ at hc ⊢
  split at hc
  · rename_i hg
    rw [if_pos hg]
    cases hcc : call f (vs.map .tree) with
    | none => rw [hcc] at hc; cases hc
    | some o => rw [hcc] at hc; rw [h _ _ _ hcc]; exact hc
  · rename_i hg
    rw [if_neg hg]
    split at hc
    · rename_i hg2
      rw [if_pos hg2]
      cases hcc : call f (vs.map fun v => .tree (loosen v)) with
      | none => rw [hcc] at hc; cases hc
      | some o => rw [hcc] at hc; rw [h _ _ _ hcc]; exact hc
    · cases hc
theorem opA_mono (h : Less call call') {q : Bool} {o : Oper} {d : Nat} {env : Env} {s : St} {r : AV × St} (hc : opA P cfg call q o d env s = some r) : opA P cfg call' q o d env s = some r := by
  obtain ⟨dst, op, ty, pos, af, g⟩ := o
  cases op with
  | call c =>
    obtain ⟨ce, as1, us⟩ := c
    cases ce with
    | value f =>
      simp only [opA] at hc ⊢
      split at hc
      · split at hc
        · rename_i hq
          rw [if_pos hq]
          split at hc
          · rename_i h1
            rw [if_pos h1]
            split at hc
            · rename_i h2
              rw [if_pos h2]
              exact callA_mono h hc
            · cases hc
          · rename_i h1
            rw [if_neg h1]
            obtain ⟨v, hcc, hv⟩ := Option.map_eq_some_iff.mp hc
            rw [callQ_mono h hcc]
            exact congrArg some hv
        · rename_i hq
          rw [if_neg hq]
          exact callA_mono h hc
      · cases hc
    | builtin b => cases b <;> exact hc
    | _ => exact hc
  | _ => exact hc
theorem opsA_mono (h : Less call call') {q : Bool} {ops : Array Oper} : ∀ (l : List Oper) {env : Env} {s : St} {r : Env × St}, opsA P cfg call q ops l env s = some r → opsA P cfg call' q ops l env s = some r
  | [], env, s, r, hc => hc
  | o :: l, env, s, r, hc => by
    simp only [opsA] at hc ⊢
    cases hw : wantA ops o env with
    | none => rw [hw] at hc; cases hc
    | some b =>
      rw [hw] at hc
      cases b with
      | false => exact opsA_mono h l hc
      | true =>
        simp only at hc ⊢
        cases ho : opA P cfg call q o (o.dst.getD 0) env s with
        | none => rw [ho] at hc; cases hc
        | some x =>
          rw [ho] at hc
          rw [opA_mono h ho]
          simp only [Option.bind_some] at hc ⊢
          exact opsA_mono h l hc
def LessK (K K' : Kont) : Prop := ∀ e env s r, K e env s = some r → K' e env s = some r
theorem loopA_mono {b b' : Kont → Env → St → Option Out} (hb : ∀ K K', LessK K K' → ∀ env s r, b K env s = some r → b' K' env s = some r) {K K' : Kont} (hK : LessK K K') :
    ∀ (n n' : Nat), n ≤ n' → ∀ env s r, loopA b K n env s = some r → loopA b' K' n' env s = some r
  | 0, n', _, env, s, r, hc => by cases hc
  | n + 1, n', hn, env, s, r, hc => by
    obtain ⟨m, rfl⟩ : ∃ m, n' = m + 1 := ⟨n' - 1, by omega⟩
    simp only [loopA] at hc ⊢
    refine hb _ _ (fun e env s r h => ?_) _ _ _ hc
    cases e with
    | normal => exact loopA_mono hb hK n m (by omega) _ _ _ h
    | exit i => exact hK _ _ _ _ h
    | ret => exact hK _ _ _ _ h
theorem den_mono (h : Less call call') {n n' : Nat} (hn : n ≤ n') : ∀ (c : Code) {K K' : Kont}, LessK K K' → ∀ {env : Env} {s : St} {r : Out}, den P cfg call n c K env s = some r → den P cfg call' n' c K' env s = some r
  | .skip, K, K', hK, env, s, r, hc => hK _ _ _ _ hc
  | .label _, K, K', hK, env, s, r, hc => hK _ _ _ _ hc
  | .region _ ops draw, K, K', hK, env, s, r, hc => by
    simp only [den] at hc ⊢
    cases ho : opsA P cfg call draw ops ops.toList env (killI cfg.keep draw ops.toList s) with
    | none => rw [ho] at hc; cases hc
    | some x =>
      rw [ho] at hc
      rw [opsA_mono h _ ho]
      exact hK _ _ _ _ hc
  | .seq a b, K, K', hK, env, s, r, hc => by
    simp only [den] at hc ⊢
    refine den_mono h hn a (fun e env s r hh => ?_) hc
    cases e with
    | normal => exact den_mono h hn b hK hh
    | exit i => exact hK _ _ _ _ hh
    | ret => exact hK _ _ _ _ hh
  | .cond c a b, K, K', hK, env, s, r, hc => by
    simp only [den] at hc ⊢
    cases hv : ev env c <;> rw [hv] at hc <;> try cases hc
    rename_i x
    cases x with
    | true => exact den_mono h hn a hK hc
    | false => exact den_mono h hn b hK hc
  | .scope a, K, K', hK, env, s, r, hc => by
    simp only [den] at hc ⊢
    exact den_mono h hn a hK hc
  | .block id a, K, K', hK, env, s, r, hc => by
    simp only [den] at hc ⊢
    refine den_mono h hn a (fun e env s r hh => ?_) hc
    cases e with
    | normal => exact hK _ _ _ _ hh
    | exit i =>
      simp only at hh ⊢
      split at hh
      · rename_i hi; rw [if_pos hi]; exact hK _ _ _ _ hh
      · rename_i hi; rw [if_neg hi]; exact hK _ _ _ _ hh
    | ret => exact hK _ _ _ _ hh
  | .loop a, K, K', hK, env, s, r, hc => by
    simp only [den] at hc ⊢
    exact loopA_mono (b := den P cfg call n a) (b' := den P cfg call' n' a) (fun K K' hK env s r hh => den_mono h hn a hK hh) hK n n' hn _ _ _ hc
  | .exit id, K, K', hK, env, s, r, hc => hK _ _ _ _ hc
  | .ret, K, K', hK, env, s, r, hc => hK _ _ _ _ hc
  | .rangeFunc .., K, K', hK, env, s, r, hc => by cases hc
  | .goto _, K, K', hK, env, s, r, hc => by cases hc
  | .refuse _, K, K', hK, env, s, r, hc => by cases hc
theorem evalFn_mono {n n' : Nat} (hn : n ≤ n') : ∀ (d d' : Nat), d ≤ d' → Less (evalFn P cfg n d) (evalFn P cfg n' d')
  | 0, _, _, f, as1, r, hc => by cases hc
  | d + 1, d', hd, f, as1, r, hc => by
    obtain ⟨m, rfl⟩ : ∃ m, d' = m + 1 := ⟨d' - 1, by omega⟩
    simp only [evalFn] at hc ⊢
    cases hp : cfg.prim f as1 with
    | some o => rw [hp] at hc; exact hc
    | none =>
      rw [hp] at hc
      simp only at hc ⊢
      cases hf : P.funcs[f]? with
      | none => rw [hf] at hc; cases hc
      | some fn =>
        rw [hf] at hc
        simp only at hc ⊢
        cases hb : fn.body with
        | none => rw [hb] at hc; cases hc
        | some c =>
          rw [hb] at hc
          simp only at hc ⊢
          split at hc
          · rename_i hg
            rw [if_pos hg]
            exact den_mono (evalFn_mono hn d m (by omega)) hn c (fun _ _ _ _ hh => hh) hc
          · cases hc
end
end Go.Ab

/- The document's own check of terms, walked. Conditions: limbs in range; texts shorter than the rounds. -/
namespace Go.Ab
open Go.Proofs
set_option maxRecDepth 100000
set_option linter.unusedSimpArgs false

mutual
/-- Limbs in range, texts not too long, everywhere. -/
def bigT (R : Nat) : T → Prop
  | .mk _ _ _ l s _ _ ks => Limbs l ∧ s.length < R ∧ bigK R ks
def bigK (R : Nat) : List T → Prop
  | [] => True
  | t :: r => bigT R t ∧ bigK R r
end
theorem bigK_at (R : Nat) : ∀ (ks : List T) (i : Nat) (t : T) (r : List T), ks.drop i = t :: r → bigK R ks → bigT R t
  | [], i, t, r, h, _ => by simp at h
  | a :: q, 0, t, r, h, hw => by simp only [List.drop_zero, List.cons.injEq] at h; obtain ⟨rfl, rfl⟩ := h; simp only [bigK] at hw; exact hw.1
  | a :: q, i + 1, t, r, h, hw => by simp only [bigK] at hw; exact bigK_at R q i t r (by simpa using h) hw.2
mutual
def rwT : T → Int → Int → Int
  | .mk k b lg l s m kg ks, deep, n => if n + 1 > 2000 ∨ deep > 60 ∨ ownT (.mk k b lg l s m kg ks) = false then -1 else rwK k ks 0 deep (n + 1)
def rwK (k : Int) : List T → Nat → Int → Int → Int
  | [], _, _, n => n
  | t :: r, i, deep, n => if rwT t (if k = 4 ∧ i = 1 then deep else deep + 1) n < 0 then -1 else rwK k r (i + 1) deep (rwT t (if k = 4 ∧ i = 1 then deep else deep + 1) n)
end
mutual
theorem rwT_good (R : Nat) : ∀ (t : T) (deep n : Int), bigT R t → 0 ≤ n → 0 ≤ rwT t deep n → goodT t ∧ rwT t deep n = n + nodT t ∧ rwT t deep n ≤ 2000
  | .mk k b lg l s m kg ks, deep, n, hb, hn, h => by
    simp only [rwT, nodT] at h ⊢
    split at h
    · omega
    · rename_i hg
      have ho : ownT (.mk k b lg l s m kg ks) = true := by
        cases h0 : ownT (.mk k b lg l s m kg ks)
        · exact absurd (.inr (.inr h0)) hg
        · rfl
      simp only [hg, ↓reduceIte]
      simp only [bigT] at hb
      have := rwK_good R k ks 0 deep (n + 1) hb.2.2 (by omega) (by omega) h
      simp only [goodT]
      exact ⟨⟨hb.1, ho, this.1⟩, by omega, this.2.2⟩
theorem rwK_good (R : Nat) (k : Int) : ∀ (ks : List T) (i : Nat) (deep n : Int), bigK R ks → 0 ≤ n → n ≤ 2000 → 0 ≤ rwK k ks i deep n → goodK ks ∧ rwK k ks i deep n = n + nodK ks ∧ rwK k ks i deep n ≤ 2000
  | [], i, deep, n, _, hn, hn2, h => by simp only [rwK, goodK, nodK] at h ⊢; exact ⟨trivial, by omega, hn2⟩
  | t :: r, i, deep, n, hb, hn, hn2, h => by
    simp only [rwK, goodK, nodK, bigK] at h hb ⊢
    generalize (if k = 4 ∧ i = 1 then deep else deep + 1) = dd at h ⊢
    split at h
    · omega
    · rename_i hg
      have a := rwT_good R t dd n hb.1 hn (by omega)
      have b := rwK_good R k r (i + 1) deep _ hb.2 (by omega) (by omega) h
      simp only [hg, ↓reduceIte]
      exact ⟨⟨a.1, b.1⟩, by omega, b.2.2⟩
end
theorem callA_tii {cfg : Cfg} {call : FuncId → List Arg → Option Out} {D : Nat} {f : FuncId} {ys : List AV} {x z : Int} {r : AV} (hc : call f [.tree (.agg ys), .tree (.int .i64 x), .tree (.int .i64 z)] = some (.tree r, [[], [], []])) (s : St) :
    callA cfg call D s f [.agg ys, .int .i64 x, .int .i64 z] = some (r, s) := callA_trees (vs := [.agg ys, .int .i64 x, .int .i64 z]) rfl hc
set_option maxHeartbeats 32000000 in
theorem rwalk_eq (R : Nat) (hR : 100 ≤ R) (hR2 : R ≤ 9223372036854775808) : ∀ (N D : Nat) (t : T) (deep n : Int), 2001 - n ≤ N → N + 3 ≤ D → bigT R t → 0 ≤ deep → deep ≤ 1000 → 0 ≤ n → n ≤ 2000 →
    evalFn Tryd.prog cfg0 R D 45 [.tree (encT t), .tree (.int .i64 deep), .tree (.int .i64 n)] = some (.tree (.int .i64 (rwT t deep n)), [[], [], []])
  | 0, D, t, deep, n, h1, h2, h3, h4, h5, h6, h7 => by omega
  | N + 1, D, t, deep, n, h1, h2, h3, h4, h5, h6, h7 => by
    have IH := fun D h t deep n h1 h3 h4 h5 h6 h7 => rwalk_eq R hR hR2 N D t deep n h1 h h3 h4 h5 h6 h7
    obtain ⟨d, rfl⟩ : ∃ d, D = d + 4 := ⟨D - 4, by omega⟩
    rw [evalFn_go _ Tryd.func45 (by unfold Tryd.f45; rfl) (by unfold Tryd.f45; decide) (Nat.le_of_ble_eq_true (by unfold Tryd.f45; rfl)) (by kernel_rfl)]
    obtain ⟨k, b, lg, l, s, m, kg, ks⟩ := t
    simp only [bigT] at h3
    have f0 := i_add Tryd.prog 3 n 1 (by omega) (by omega)
    have co := fun D st => callA_trees (cfg := cfg0) (d := D) (s := st) (f := 67) (vs := [encT (.mk k b lg l s m kg ks)]) rfl (fields_eq R (d+1) k b lg l h3.1 s h3.2.1 (by omega) m kg ks)
    simp only [encT, cellsT] at co
    by_cases g1 : n + 1 > 2000
    · have hr : rwT (.mk k b lg l s m kg ks) deep n = -1 := by simp only [rwT]; exact if_pos (.inl g1)
      rw [hr]
      simp only [zaa, zab, zac, zad, zae, zaf, zag, zah, zai, zaj, zak, zal, zam, zan, zao, zap, zaq, zar, zas, zat, zau, zav, zaw, zax, zay, zaz, zba, zbb, zbc, zbd, zbe, zbf, zbg, zbh, zbi, zbj, Nat.reduceBEq, Bool.or_self, Bool.or_false, Bool.or_true, Bool.and_true, Bool.and_false, Bool.true_and, Bool.false_and, Option.isNone_none, Option.isNone_some, Option.isSome_some, Option.isSome_none, zbk, zbl, zbm, zbn, zbo, zbp, zbq, zbr, zbs, zbt, zbu, zbv, zbw, zbx, zby, zbz, zca, zcb, zcc, zcd, zce, zcf, zcg, zch, zci, zcj, zck, zcl, zcm, zcn, zco, zcp, zcq, zcr, zcs, zct, zcu, zcv, zcw, zcx, zcy, zcz, zda, zdb, zdc, zdd, zde, zdf, Option.getD_some, Option.getD_none, zet, zeu, zev, zew, zex, zey, zez, zfa, Option.map_some, Option.map_none, Option.bind_some, List.map_cons, List.map_nil, List.cons_append, List.nil_append, ↓reduceIte, Nat.reduceEqDiff, Nat.reduceAdd, decide_true, decide_false, Bool.true_eq_false, Bool.false_eq_true, env0, List.getElem?_cons_zero, List.getElem?_cons_succ, zdg, zdh, zdi, zdj, zdk, zdl, zdm, zdn, ia22, ld31, zdo, zdp, zdq, zdr, zds, zdt, zdu, zdv, zdw, zdx, zdy, zdz, zea, zeb, zec, fa_0, fa_1, zed, bd_0, bd_2, zee, fd_1, zef, Nat.zero_add, encT, cellsT, f0, g1]
      exact finish_i _ _ _ _ _ _ _ (by first | (simp only [zfa, ↓reduceIte, Nat.reduceEqDiff]; done) | (simp only [zfa, ↓reduceIte, Nat.reduceEqDiff]; rfl)) rfl
    by_cases g2 : deep > 60
    · have hr : rwT (.mk k b lg l s m kg ks) deep n = -1 := by simp only [rwT]; exact if_pos (.inr (.inl g2))
      rw [hr]
      simp only [zaa, zab, zac, zad, zae, zaf, zag, zah, zai, zaj, zak, zal, zam, zan, zao, zap, zaq, zar, zas, zat, zau, zav, zaw, zax, zay, zaz, zba, zbb, zbc, zbd, zbe, zbf, zbg, zbh, zbi, zbj, Nat.reduceBEq, Bool.or_self, Bool.or_false, Bool.or_true, Bool.and_true, Bool.and_false, Bool.true_and, Bool.false_and, Option.isNone_none, Option.isNone_some, Option.isSome_some, Option.isSome_none, zbk, zbl, zbm, zbn, zbo, zbp, zbq, zbr, zbs, zbt, zbu, zbv, zbw, zbx, zby, zbz, zca, zcb, zcc, zcd, zce, zcf, zcg, zch, zci, zcj, zck, zcl, zcm, zcn, zco, zcp, zcq, zcr, zcs, zct, zcu, zcv, zcw, zcx, zcy, zcz, zda, zdb, zdc, zdd, zde, zdf, Option.getD_some, Option.getD_none, zet, zeu, zev, zew, zex, zey, zez, zfa, Option.map_some, Option.map_none, Option.bind_some, List.map_cons, List.map_nil, List.cons_append, List.nil_append, ↓reduceIte, Nat.reduceEqDiff, Nat.reduceAdd, decide_true, decide_false, Bool.true_eq_false, Bool.false_eq_true, env0, List.getElem?_cons_zero, List.getElem?_cons_succ, zdg, zdh, zdi, zdj, zdk, zdl, zdm, zdn, ia22, ld31, zdo, zdp, zdq, zdr, zds, zdt, zdu, zdv, zdw, zdx, zdy, zdz, zea, zeb, zec, fa_0, fa_1, zed, bd_0, bd_2, zee, fd_1, zef, Nat.zero_add, encT, cellsT, f0, g1, g2]
      exact finish_i _ _ _ _ _ _ _ (by first | (simp only [zfa, ↓reduceIte, Nat.reduceEqDiff]; done) | (simp only [zfa, ↓reduceIte, Nat.reduceEqDiff]; rfl)) rfl
    cases g3 : ownT (.mk k b lg l s m kg ks) with
    | false =>
      have hr : rwT (.mk k b lg l s m kg ks) deep n = -1 := by simp only [rwT]; exact if_pos (.inr (.inr g3))
      rw [hr]
      rw [g3] at co
      simp only [zaa, zab, zac, zad, zae, zaf, zag, zah, zai, zaj, zak, zal, zam, zan, zao, zap, zaq, zar, zas, zat, zau, zav, zaw, zax, zay, zaz, zba, zbb, zbc, zbd, zbe, zbf, zbg, zbh, zbi, zbj, Nat.reduceBEq, Bool.or_self, Bool.or_false, Bool.or_true, Bool.and_true, Bool.and_false, Bool.true_and, Bool.false_and, Option.isNone_none, Option.isNone_some, Option.isSome_some, Option.isSome_none, zbk, zbl, zbm, zbn, zbo, zbp, zbq, zbr, zbs, zbt, zbu, zbv, zbw, zbx, zby, zbz, zca, zcb, zcc, zcd, zce, zcf, zcg, zch, zci, zcj, zck, zcl, zcm, zcn, zco, zcp, zcq, zcr, zcs, zct, zcu, zcv, zcw, zcx, zcy, zcz, zda, zdb, zdc, zdd, zde, zdf, Option.getD_some, Option.getD_none, zet, zeu, zev, zew, zex, zey, zez, zfa, Option.map_some, Option.map_none, Option.bind_some, List.map_cons, List.map_nil, List.cons_append, List.nil_append, ↓reduceIte, Nat.reduceEqDiff, Nat.reduceAdd, decide_true, decide_false, Bool.true_eq_false, Bool.false_eq_true, env0, List.getElem?_cons_zero, List.getElem?_cons_succ, zdg, zdh, zdi, zdj, zdk, zdl, zdm, zdn, ia22, ld31, zdo, zdp, zdq, zdr, zds, zdt, zdu, zdv, zdw, zdx, zdy, zdz, zea, zeb, zec, fa_0, fa_1, zed, bd_0, bd_2, zee, fd_1, zef, Nat.zero_add, encT, cellsT, ldT_a, f0, g1, g2, co, unA_not', Bool.not_false]
      exact finish_i _ _ _ _ _ _ _ (by first | (simp only [zfa, ↓reduceIte, Nat.reduceEqDiff]; done) | (simp only [zfa, ↓reduceIte, Nat.reduceEqDiff]; rfl)) rfl
    | true =>
      rw [g3] at co
      have hg : ¬ (n + 1 > 2000 ∨ deep > 60 ∨ ownT (.mk k b lg l s m kg ks) = false) := by rw [g3]; simp only [g1, g2, false_or]; decide
      have hr : rwT (.mk k b lg l s m kg ks) deep n = rwK k ks 0 deep (n + 1) := by simp only [rwT]; exact if_neg hg
      rw [hr]
      have hks : ks.length ≤ 40 := by
        have := g3
        simp only [ownT, Bool.and_eq_true, decide_eq_true_eq] at this
        have h5 := this.2.1.2
        by_cases k4 : k = 4
        · rw [if_pos k4, decide_eq_true_eq] at h5; omega
        · rw [if_neg k4] at h5
          by_cases k5 : k = 5
          · rw [if_pos k5, decide_eq_true_eq] at h5; exact h5
          · rw [if_neg k5, decide_eq_true_eq] at h5; omega
      simp only [zaa, zab, zac, zad, zae, zaf, zag, zah, zai, zaj, zak, zal, zam, zan, zao, zap, zaq, zar, zas, zat, zau, zav, zaw, zax, zay, zaz, zba, zbb, zbc, zbd, zbe, zbf, zbg, zbh, zbi, zbj, Nat.reduceBEq, Bool.or_self, Bool.or_false, Bool.or_true, Bool.and_true, Bool.and_false, Bool.true_and, Bool.false_and, Option.isNone_none, Option.isNone_some, Option.isSome_some, Option.isSome_none, zbk, zbl, zbm, zbn, zbo, zbp, zbq, zbr, zbs, zbt, zbu, zbv, zbw, zbx, zby, zbz, zca, zcb, zcc, zcd, zce, zcf, zcg, zch, zci, zcj, zck, zcl, zcm, zcn, zco, zcp, zcq, zcr, zcs, zct, zcu, zcv, zcw, zcx, zcy, zcz, zda, zdb, zdc, zdd, zde, zdf, Option.getD_some, Option.getD_none, zet, zeu, zev, zew, zex, zey, zez, zfa, Option.map_some, Option.map_none, Option.bind_some, List.map_cons, List.map_nil, List.cons_append, List.nil_append, ↓reduceIte, Nat.reduceEqDiff, Nat.reduceAdd, decide_true, decide_false, Bool.true_eq_false, Bool.false_eq_true, env0, List.getElem?_cons_zero, List.getElem?_cons_succ, zdg, zdh, zdi, zdj, zdk, zdl, zdm, zdn, ia22, ld31, zdo, zdp, zdq, zdr, zds, zdt, zdu, zdv, zdw, zdx, zdy, zdz, zea, zeb, zec, fa_0, fa_1, zed, bd_0, bd_2, zee, fd_1, zef, Nat.zero_add, encT, cellsT, ldT_a, f0, g1, g2, co, unA_not', Bool.not_true, den_loop]
      generalize hV : rwK k ks 0 deep (n + 1) = V
      refine loop_ends (X := Nat × Int) (fun x env st => env 1 = .int .i64 deep ∧ env 2 = .int .i64 x.2 ∧ env 3 = .ptr 3 1 0 ∧ env 7 = .int .i64 (x.1 : Int) ∧ st 3 = ⟨1, .buf (cellsT (.mk k b lg l s m kg ks))⟩ ∧ x.1 ≤ ks.length ∧ n + 1 ≤ x.2 ∧ x.2 ≤ 2000 ∧ rwK k (ks.drop x.1) x.1 deep x.2 = V) (fun x => ks.length - x.1) (fun _ => (.tree (.int .i64 V), [[], [], []])) ?_ R (0, n + 1) _ _ (by simp only; omega) ⟨(by first | (simp only [zfa, ↓reduceIte, Nat.reduceEqDiff, env0, List.getElem?_cons_zero, List.getElem?_cons_succ]; done) | (simp only [zfa, ↓reduceIte, Nat.reduceEqDiff, env0, List.getElem?_cons_zero, List.getElem?_cons_succ]; rfl)), (by first | (simp only [zfa, ↓reduceIte, Nat.reduceEqDiff]; done) | (simp only [zfa, ↓reduceIte, Nat.reduceEqDiff]; rfl)), (by first | (simp only [zfa, ↓reduceIte, Nat.reduceEqDiff]; done) | (simp only [zfa, ↓reduceIte, Nat.reduceEqDiff]; rfl)), (by first | (simp only [zfa, ↓reduceIte, Nat.reduceEqDiff]; done) | (simp only [zfa, ↓reduceIte, Nat.reduceEqDiff]; rfl)), by simp only [cellsT]; exact (by first | (simp only [zfa, ↓reduceIte, Nat.reduceEqDiff]; done) | (simp only [zfa, ↓reduceIte, Nat.reduceEqDiff]; rfl)), Nat.zero_le _, by simp only; omega, by simp only; omega, hV⟩
      rintro rr ⟨i, v⟩ hrr ih env st ⟨e1, e2, e3, e7, j3, hi, hv0, hv1, hc⟩
      simp only at e2 e7 hi hv0 hv1 hc
      simp only [cellsT] at j3
      cases hd : ks.drop i with
      | nil =>
        have hil : i = ks.length := by have := congrArg List.length hd; simp only [List.length_drop, List.length_nil] at this; omega
        rw [hd] at hc
        simp only [rwK] at hc
        rw [← hc]
        have q1 : ¬ ((i : Int) < (ks.length : Int)) := by omega
        simp only [zaa, zab, zac, zad, zae, zaf, zag, zah, zai, zaj, zak, zal, zam, zan, zao, zap, zaq, zar, zas, zat, zau, zav, zaw, zax, zay, zaz, zba, zbb, zbc, zbd, zbe, zbf, zbg, zbh, zbi, zbj, Nat.reduceBEq, Bool.or_self, Bool.or_false, Bool.or_true, Bool.and_true, Bool.and_false, Bool.true_and, Bool.false_and, Option.isNone_none, Option.isNone_some, Option.isSome_some, Option.isSome_none, zbk, zbl, zbm, zbn, zbo, zbp, zbq, zbr, zbs, zbt, zbu, zbv, zbw, zbx, zby, zbz, zca, zcb, zcc, zcd, zce, zcf, zcg, zch, zci, zcj, zck, zcl, zcm, zcn, zco, zcp, zcq, zcr, zcs, zct, zcu, zcv, zcw, zcx, zcy, zcz, zda, zdb, zdc, zdd, zde, zdf, Option.getD_some, Option.getD_none, zet, zeu, zev, zew, zex, zey, zez, zfa, Option.map_some, Option.map_none, Option.bind_some, List.map_cons, List.map_nil, List.cons_append, List.nil_append, ↓reduceIte, Nat.reduceEqDiff, Nat.reduceAdd, decide_true, decide_false, Bool.true_eq_false, Bool.false_eq_true, zdg, zdh, zdi, zdj, zdk, zdl, zdm, zdn, ia22, ld31, zdo, zdp, zdq, zdr, zds, zdt, zdu, zdv, zdw, zdx, zdy, zdz, zea, zeb, zec, fa_0, fa_1, zed, bd_0, bd_2, zee, fd_1, zef, Nat.zero_add, e1, e2, e3, e7, j3, faT_4, ldT_4, lenTk, q1]
        exact finish_i _ _ _ _ _ _ _ (by first | (simp only [zfa, ↓reduceIte, Nat.reduceEqDiff]; done) | (simp only [zfa, ↓reduceIte, Nat.reduceEqDiff]; rfl)) rfl
      | cons kid r =>
        have hil : i < ks.length := by have := congrArg List.length hd; simp only [List.length_drop, List.length_cons] at this; omega
        rw [hd] at hc
        simp only [rwK] at hc
        have q1 : (i : Int) < (ks.length : Int) := by omega
        have f5 := i_add Tryd.prog 3 (i : Int) 1 (by omega) (by omega)
        have f6 := i_add Tryd.prog 3 deep 1 (by omega) (by omega)
        have kb := bigK_at R ks i kid r hd h3.2.2
        have ia := fun st => ia_K st ks (gr kg) i hil
        rw [hd] at ia
        have ld := fun st => ld_K st kid r
        simp only [encT] at ld
        by_cases hk1 : k = 4 ∧ i = 1
        · rw [if_pos hk1] at hc
          obtain ⟨rfl, rfl⟩ := hk1
          have b4 : ((4 : Int) == 4) = true := rfl
          have b1 : (((1 : Nat) : Int) == 1) = true := rfl
          have cc := fun D => callA_tii (cfg := cfg0) (D := D) (IH (d+3) (by omega) kid deep v (by omega) kb (by omega) (by omega) (by omega) (by omega))
          by_cases hx : rwT kid deep v < 0
          · rw [if_pos hx] at hc
            rw [← hc]
            simp only [zaa, zab, zac, zad, zae, zaf, zag, zah, zai, zaj, zak, zal, zam, zan, zao, zap, zaq, zar, zas, zat, zau, zav, zaw, zax, zay, zaz, zba, zbb, zbc, zbd, zbe, zbf, zbg, zbh, zbi, zbj, Nat.reduceBEq, Bool.or_self, Bool.or_false, Bool.or_true, Bool.and_true, Bool.and_false, Bool.true_and, Bool.false_and, Option.isNone_none, Option.isNone_some, Option.isSome_some, Option.isSome_none, zbk, zbl, zbm, zbn, zbo, zbp, zbq, zbr, zbs, zbt, zbu, zbv, zbw, zbx, zby, zbz, zca, zcb, zcc, zcd, zce, zcf, zcg, zch, zci, zcj, zck, zcl, zcm, zcn, zco, zcp, zcq, zcr, zcs, zct, zcu, zcv, zcw, zcx, zcy, zcz, zda, zdb, zdc, zdd, zde, zdf, Option.getD_some, Option.getD_none, zet, zeu, zev, zew, zex, zey, zez, zfa, Option.map_some, Option.map_none, Option.bind_some, List.map_cons, List.map_nil, List.cons_append, List.nil_append, ↓reduceIte, Nat.reduceEqDiff, Nat.reduceAdd, decide_true, decide_false, Bool.true_eq_false, Bool.false_eq_true, zdg, zdh, zdi, zdj, zdk, zdl, zdm, zdn, ia22, ld31, zdo, zdp, zdq, zdr, zds, zdt, zdu, zdv, zdw, zdx, zdy, zdz, zea, zeb, zec, fa_0, fa_1, zed, bd_0, bd_2, zee, fd_1, zef, Nat.zero_add, e1, e2, e3, e7, j3, faT_0, faT_4, ldT_0, ldT_4, lenTk, q1, f6, i_eqlV, b4, b1, ia, ld, cc, hx]
            exact finish_i _ _ _ _ _ _ _ (by first | (simp only [zfa, ↓reduceIte, Nat.reduceEqDiff]; done) | (simp only [zfa, ↓reduceIte, Nat.reduceEqDiff]; rfl)) rfl
          · rw [if_neg hx] at hc
            have hgd := rwT_good R kid deep v kb (by omega) (by omega)
            have := nod_pos kid
            simp only [zaa, zab, zac, zad, zae, zaf, zag, zah, zai, zaj, zak, zal, zam, zan, zao, zap, zaq, zar, zas, zat, zau, zav, zaw, zax, zay, zaz, zba, zbb, zbc, zbd, zbe, zbf, zbg, zbh, zbi, zbj, Nat.reduceBEq, Bool.or_self, Bool.or_false, Bool.or_true, Bool.and_true, Bool.and_false, Bool.true_and, Bool.false_and, Option.isNone_none, Option.isNone_some, Option.isSome_some, Option.isSome_none, zbk, zbl, zbm, zbn, zbo, zbp, zbq, zbr, zbs, zbt, zbu, zbv, zbw, zbx, zby, zbz, zca, zcb, zcc, zcd, zce, zcf, zcg, zch, zci, zcj, zck, zcl, zcm, zcn, zco, zcp, zcq, zcr, zcs, zct, zcu, zcv, zcw, zcx, zcy, zcz, zda, zdb, zdc, zdd, zde, zdf, Option.getD_some, Option.getD_none, zet, zeu, zev, zew, zex, zey, zez, zfa, Option.map_some, Option.map_none, Option.bind_some, List.map_cons, List.map_nil, List.cons_append, List.nil_append, ↓reduceIte, Nat.reduceEqDiff, Nat.reduceAdd, decide_true, decide_false, Bool.true_eq_false, Bool.false_eq_true, zdg, zdh, zdi, zdj, zdk, zdl, zdm, zdn, ia22, ld31, zdo, zdp, zdq, zdr, zds, zdt, zdu, zdv, zdw, zdx, zdy, zdz, zea, zeb, zec, fa_0, fa_1, zed, bd_0, bd_2, zee, fd_1, zef, Nat.zero_add, e1, e2, e3, e7, j3, faT_0, faT_4, ldT_0, ldT_4, lenTk, q1, f6, i_eqlV, b4, b1, ia, ld, cc, hx, f5]
            exact ih (1 + 1, rwT kid deep v) _ _ (by simp only; omega) rfl ⟨(by first | (simp only [zfa, ↓reduceIte, Nat.reduceEqDiff, e1]; done) | (simp only [zfa, ↓reduceIte, Nat.reduceEqDiff, e1]; rfl)), (by first | (simp only [zfa, ↓reduceIte, Nat.reduceEqDiff]; done) | (simp only [zfa, ↓reduceIte, Nat.reduceEqDiff]; rfl)), (by first | (simp only [zfa, ↓reduceIte, Nat.reduceEqDiff, e3]; done) | (simp only [zfa, ↓reduceIte, Nat.reduceEqDiff, e3]; rfl)), (by first | (simp only [zfa, ↓reduceIte, Nat.reduceEqDiff]; done) | (simp only [zfa, ↓reduceIte, Nat.reduceEqDiff]; rfl)), by simp only [cellsT]; exact (by first | (simp only [zfa, ↓reduceIte, Nat.reduceEqDiff, j3]; done) | (simp only [zfa, ↓reduceIte, Nat.reduceEqDiff, j3]; rfl)), by simp only; omega, by simp only; omega, by simp only; omega, by simp only; rw [drop_next hd]; exact hc⟩
        · rw [if_neg hk1] at hc
          have cc := fun D => callA_tii (cfg := cfg0) (D := D) (IH (d+3) (by omega) kid (deep + 1) v (by omega) kb (by omega) (by omega) (by omega) (by omega))
          have hbb : (k == 4) = true ∧ ((i : Int) == 1) = false ∨ (k == 4) = false := by
            by_cases k4 : k = 4
            · refine .inl ⟨beq_iff_eq.mpr k4, beq_eq_false_iff_ne.mpr fun e => hk1 ⟨k4, by omega⟩⟩
            · exact .inr (beq_eq_false_iff_ne.mpr k4)
          by_cases hx : rwT kid (deep + 1) v < 0
          · rw [if_pos hx] at hc
            rw [← hc]
            rcases hbb with ⟨b4, b1⟩ | b4
            · simp only [zaa, zab, zac, zad, zae, zaf, zag, zah, zai, zaj, zak, zal, zam, zan, zao, zap, zaq, zar, zas, zat, zau, zav, zaw, zax, zay, zaz, zba, zbb, zbc, zbd, zbe, zbf, zbg, zbh, zbi, zbj, Nat.reduceBEq, Bool.or_self, Bool.or_false, Bool.or_true, Bool.and_true, Bool.and_false, Bool.true_and, Bool.false_and, Option.isNone_none, Option.isNone_some, Option.isSome_some, Option.isSome_none, zbk, zbl, zbm, zbn, zbo, zbp, zbq, zbr, zbs, zbt, zbu, zbv, zbw, zbx, zby, zbz, zca, zcb, zcc, zcd, zce, zcf, zcg, zch, zci, zcj, zck, zcl, zcm, zcn, zco, zcp, zcq, zcr, zcs, zct, zcu, zcv, zcw, zcx, zcy, zcz, zda, zdb, zdc, zdd, zde, zdf, Option.getD_some, Option.getD_none, zet, zeu, zev, zew, zex, zey, zez, zfa, Option.map_some, Option.map_none, Option.bind_some, List.map_cons, List.map_nil, List.cons_append, List.nil_append, ↓reduceIte, Nat.reduceEqDiff, Nat.reduceAdd, decide_true, decide_false, Bool.true_eq_false, Bool.false_eq_true, zdg, zdh, zdi, zdj, zdk, zdl, zdm, zdn, ia22, ld31, zdo, zdp, zdq, zdr, zds, zdt, zdu, zdv, zdw, zdx, zdy, zdz, zea, zeb, zec, fa_0, fa_1, zed, bd_0, bd_2, zee, fd_1, zef, Nat.zero_add, e1, e2, e3, e7, j3, faT_0, faT_4, ldT_0, ldT_4, lenTk, q1, f6, i_eqlV, b4, b1, ia, ld, cc, hx]
              exact finish_i _ _ _ _ _ _ _ (by first | (simp only [zfa, ↓reduceIte, Nat.reduceEqDiff]; done) | (simp only [zfa, ↓reduceIte, Nat.reduceEqDiff]; rfl)) rfl
            · simp only [zaa, zab, zac, zad, zae, zaf, zag, zah, zai, zaj, zak, zal, zam, zan, zao, zap, zaq, zar, zas, zat, zau, zav, zaw, zax, zay, zaz, zba, zbb, zbc, zbd, zbe, zbf, zbg, zbh, zbi, zbj, Nat.reduceBEq, Bool.or_self, Bool.or_false, Bool.or_true, Bool.and_true, Bool.and_false, Bool.true_and, Bool.false_and, Option.isNone_none, Option.isNone_some, Option.isSome_some, Option.isSome_none, zbk, zbl, zbm, zbn, zbo, zbp, zbq, zbr, zbs, zbt, zbu, zbv, zbw, zbx, zby, zbz, zca, zcb, zcc, zcd, zce, zcf, zcg, zch, zci, zcj, zck, zcl, zcm, zcn, zco, zcp, zcq, zcr, zcs, zct, zcu, zcv, zcw, zcx, zcy, zcz, zda, zdb, zdc, zdd, zde, zdf, Option.getD_some, Option.getD_none, zet, zeu, zev, zew, zex, zey, zez, zfa, Option.map_some, Option.map_none, Option.bind_some, List.map_cons, List.map_nil, List.cons_append, List.nil_append, ↓reduceIte, Nat.reduceEqDiff, Nat.reduceAdd, decide_true, decide_false, Bool.true_eq_false, Bool.false_eq_true, zdg, zdh, zdi, zdj, zdk, zdl, zdm, zdn, ia22, ld31, zdo, zdp, zdq, zdr, zds, zdt, zdu, zdv, zdw, zdx, zdy, zdz, zea, zeb, zec, fa_0, fa_1, zed, bd_0, bd_2, zee, fd_1, zef, Nat.zero_add, e1, e2, e3, e7, j3, faT_0, faT_4, ldT_0, ldT_4, lenTk, q1, f6, i_eqlV, b4, ia, ld, cc, hx]
              exact finish_i _ _ _ _ _ _ _ (by first | (simp only [zfa, ↓reduceIte, Nat.reduceEqDiff]; done) | (simp only [zfa, ↓reduceIte, Nat.reduceEqDiff]; rfl)) rfl
          · rw [if_neg hx] at hc
            have hgd := rwT_good R kid (deep + 1) v kb (by omega) (by omega)
            have := nod_pos kid
            rcases hbb with ⟨b4, b1⟩ | b4
            · simp only [zaa, zab, zac, zad, zae, zaf, zag, zah, zai, zaj, zak, zal, zam, zan, zao, zap, zaq, zar, zas, zat, zau, zav, zaw, zax, zay, zaz, zba, zbb, zbc, zbd, zbe, zbf, zbg, zbh, zbi, zbj, Nat.reduceBEq, Bool.or_self, Bool.or_false, Bool.or_true, Bool.and_true, Bool.and_false, Bool.true_and, Bool.false_and, Option.isNone_none, Option.isNone_some, Option.isSome_some, Option.isSome_none, zbk, zbl, zbm, zbn, zbo, zbp, zbq, zbr, zbs, zbt, zbu, zbv, zbw, zbx, zby, zbz, zca, zcb, zcc, zcd, zce, zcf, zcg, zch, zci, zcj, zck, zcl, zcm, zcn, zco, zcp, zcq, zcr, zcs, zct, zcu, zcv, zcw, zcx, zcy, zcz, zda, zdb, zdc, zdd, zde, zdf, Option.getD_some, Option.getD_none, zet, zeu, zev, zew, zex, zey, zez, zfa, Option.map_some, Option.map_none, Option.bind_some, List.map_cons, List.map_nil, List.cons_append, List.nil_append, ↓reduceIte, Nat.reduceEqDiff, Nat.reduceAdd, decide_true, decide_false, Bool.true_eq_false, Bool.false_eq_true, zdg, zdh, zdi, zdj, zdk, zdl, zdm, zdn, ia22, ld31, zdo, zdp, zdq, zdr, zds, zdt, zdu, zdv, zdw, zdx, zdy, zdz, zea, zeb, zec, fa_0, fa_1, zed, bd_0, bd_2, zee, fd_1, zef, Nat.zero_add, e1, e2, e3, e7, j3, faT_0, faT_4, ldT_0, ldT_4, lenTk, q1, f6, i_eqlV, b4, b1, ia, ld, cc, hx, f5]
              exact ih (i + 1, rwT kid (deep + 1) v) _ _ (by simp only; omega) rfl ⟨(by first | (simp only [zfa, ↓reduceIte, Nat.reduceEqDiff, e1]; done) | (simp only [zfa, ↓reduceIte, Nat.reduceEqDiff, e1]; rfl)), (by first | (simp only [zfa, ↓reduceIte, Nat.reduceEqDiff]; done) | (simp only [zfa, ↓reduceIte, Nat.reduceEqDiff]; rfl)), (by first | (simp only [zfa, ↓reduceIte, Nat.reduceEqDiff, e3]; done) | (simp only [zfa, ↓reduceIte, Nat.reduceEqDiff, e3]; rfl)), (by first | (simp only [zfa, ↓reduceIte, Nat.reduceEqDiff]; done) | (simp only [zfa, ↓reduceIte, Nat.reduceEqDiff]; rfl)), by simp only [cellsT]; exact (by first | (simp only [zfa, ↓reduceIte, Nat.reduceEqDiff, j3]; done) | (simp only [zfa, ↓reduceIte, Nat.reduceEqDiff, j3]; rfl)), by simp only; omega, by simp only; omega, by simp only; omega, by simp only; rw [drop_next hd]; exact hc⟩
            · simp only [zaa, zab, zac, zad, zae, zaf, zag, zah, zai, zaj, zak, zal, zam, zan, zao, zap, zaq, zar, zas, zat, zau, zav, zaw, zax, zay, zaz, zba, zbb, zbc, zbd, zbe, zbf, zbg, zbh, zbi, zbj, Nat.reduceBEq, Bool.or_self, Bool.or_false, Bool.or_true, Bool.and_true, Bool.and_false, Bool.true_and, Bool.false_and, Option.isNone_none, Option.isNone_some, Option.isSome_some, Option.isSome_none, zbk, zbl, zbm, zbn, zbo, zbp, zbq, zbr, zbs, zbt, zbu, zbv, zbw, zbx, zby, zbz, zca, zcb, zcc, zcd, zce, zcf, zcg, zch, zci, zcj, zck, zcl, zcm, zcn, zco, zcp, zcq, zcr, zcs, zct, zcu, zcv, zcw, zcx, zcy, zcz, zda, zdb, zdc, zdd, zde, zdf, Option.getD_some, Option.getD_none, zet, zeu, zev, zew, zex, zey, zez, zfa, Option.map_some, Option.map_none, Option.bind_some, List.map_cons, List.map_nil, List.cons_append, List.nil_append, ↓reduceIte, Nat.reduceEqDiff, Nat.reduceAdd, decide_true, decide_false, Bool.true_eq_false, Bool.false_eq_true, zdg, zdh, zdi, zdj, zdk, zdl, zdm, zdn, ia22, ld31, zdo, zdp, zdq, zdr, zds, zdt, zdu, zdv, zdw, zdx, zdy, zdz, zea, zeb, zec, fa_0, fa_1, zed, bd_0, bd_2, zee, fd_1, zef, Nat.zero_add, e1, e2, e3, e7, j3, faT_0, faT_4, ldT_0, ldT_4, lenTk, q1, f6, i_eqlV, b4, ia, ld, cc, hx, f5]
              exact ih (i + 1, rwT kid (deep + 1) v) _ _ (by simp only; omega) rfl ⟨(by first | (simp only [zfa, ↓reduceIte, Nat.reduceEqDiff, e1]; done) | (simp only [zfa, ↓reduceIte, Nat.reduceEqDiff, e1]; rfl)), (by first | (simp only [zfa, ↓reduceIte, Nat.reduceEqDiff]; done) | (simp only [zfa, ↓reduceIte, Nat.reduceEqDiff]; rfl)), (by first | (simp only [zfa, ↓reduceIte, Nat.reduceEqDiff, e3]; done) | (simp only [zfa, ↓reduceIte, Nat.reduceEqDiff, e3]; rfl)), (by first | (simp only [zfa, ↓reduceIte, Nat.reduceEqDiff]; done) | (simp only [zfa, ↓reduceIte, Nat.reduceEqDiff]; rfl)), by simp only [cellsT]; exact (by first | (simp only [zfa, ↓reduceIte, Nat.reduceEqDiff, j3]; done) | (simp only [zfa, ↓reduceIte, Nat.reduceEqDiff, j3]; rfl)), by simp only; omega, by simp only; omega, by simp only; omega, by simp only; rw [drop_next hd]; exact hc⟩
theorem rCheck_eq (R : Nat) (hR : 100 ≤ R) (hR2 : R ≤ 9223372036854775808) (d : Nat) (t : T) (ht : bigT R t) : evalFn Tryd.prog cfg0 R (d + 2005) 23 [.tree (encT t)] = some (.tree (.bool (decide (rwT t 1 0 ≥ 0))), [[]]) := by
  rw [evalFn_go _ Tryd.func23 (by unfold Tryd.f23; rfl) (by unfold Tryd.f23; decide) (Nat.le_of_ble_eq_true (by unfold Tryd.f23; rfl)) (by kernel_rfl)]
  have cc := fun D => callA_tii (cfg := cfg0) (D := D) (rwalk_eq R hR hR2 2001 (d + 2004) t 1 0 (by decide) (by omega) ht (by decide) (by decide) (by decide) (by decide))
  simp only [zaa, zab, zac, zad, zae, zaf, zag, zah, zai, zaj, zak, zal, zam, zan, zao, zap, zaq, zar, zas, zat, zau, zav, zaw, zax, zay, zaz, zba, zbb, zbc, zbd, zbe, zbf, zbg, zbh, zbi, zbj, Nat.reduceBEq, Bool.or_self, Bool.or_false, Bool.or_true, Bool.and_true, Bool.and_false, Bool.true_and, Bool.false_and, Option.isNone_none, Option.isNone_some, Option.isSome_some, Option.isSome_none, zbk, zbl, zbm, zbn, zbo, zbp, zbq, zbr, zbs, zbt, zbu, zbv, zbw, zbx, zby, zbz, zca, zcb, zcc, zcd, zce, zcf, zcg, zch, zci, zcj, zck, zcl, zcm, zcn, zco, zcp, zcq, zcr, zcs, zct, zcu, zcv, zcw, zcx, zcy, zcz, zda, zdb, zdc, zdd, zde, zdf, Option.getD_some, Option.getD_none, zet, zeu, zev, zew, zex, zey, zez, zfa, Option.map_some, Option.map_none, Option.bind_some, List.map_cons, List.map_nil, List.cons_append, List.nil_append, ↓reduceIte, Nat.reduceEqDiff, Nat.reduceAdd, decide_true, decide_false, Bool.true_eq_false, Bool.false_eq_true, env0, List.getElem?_cons_zero, List.getElem?_cons_succ, zdg, zdh, zdi, zdj, zdk, zdl, zdm, zdn, ia22, ld31, zdo, zdp, zdq, zdr, zds, zdt, zdu, zdv, zdw, zdx, zdy, zdz, zea, zeb, zec, fa_0, fa_1, zed, bd_0, bd_2, zee, fd_1, zef, Nat.zero_add, encT, ldT_u, cc]
  exact finish_b _ _ _ _ _ _ _ (by first | (simp only [zfa, ↓reduceIte, Nat.reduceEqDiff]; done) | (simp only [zfa, ↓reduceIte, Nat.reduceEqDiff]; rfl)) rfl
end Go.Ab

/- Terms out of a statement's reading. No conditions. -/
namespace Go.Ab
open Go.Proofs Go.RowKit Go.ChangeShapes Go.WideShapes Go.ChangeAt
set_option maxRecDepth 100000

/-- Texts and lists are no longer than that. -/
def R0 : Nat := 9223372036854775808
theorem R0_max : maxLen < R0 := by unfold R0 maxLen; decide
theorem R0_in {n : Nat} (h : n ≤ maxLen) : n < R0 := Nat.lt_of_le_of_lt h R0_max
theorem R0_pos : 0 < R0 := by unfold R0; decide
set_option maxRecDepth 100000 in
theorem und28 : ∃ f0 f1 f2 f3 f4 : Field, Tryd.prog.underlying 28 = some (.struct #[f0, f1, f2, f3, f4]) ∧ (f0.type = 3 ∧ f1.type = 25 ∧ f2.type = 9 ∧ f3.type = 3 ∧ f4.type = 26) ∧ (f0.offset = 0 ∧ f1.offset = 1 ∧ f2.offset = 3 ∧ f3.offset = 4 ∧ f4.offset = 5) := by
  exact ⟨_, _, _, _, _, Tryd.underlying28, ⟨rfl, rfl, rfl, rfl, rfl⟩, ⟨rfl, rfl, rfl, rfl, rfl⟩⟩
theorem cells28 : Tryd.prog.cellsOf 28 = 6 := by kernel_rfl
theorem cellsI : Tryd.prog.cellsOf 3 = 1 := by kernel_rfl
theorem cellsS : Tryd.prog.cellsOf 9 = 1 := by kernel_rfl
theorem cellsTk : Tryd.prog.cellsOf 26 = 1 := by kernel_rfl
theorem VC_app {S : Nat → Nat → Prop} {w : World} {b : Nat} : ∀ (xs ys : List AV) (o : Nat), VC S w xs b o → VC S w ys b (o + xs.length) → VC S w (xs ++ ys) b o
  | [], ys, o, _, h => by simpa using h
  | x :: xs, ys, o, h, h' => by
    simp only [List.cons_append, VC] at h ⊢
    exact ⟨h.1, h.2.1, VC_app xs ys (o + 1) h.2.2 (by rw [List.length_cons] at h'; rw [show o + 1 + xs.length = o + (xs.length + 1) by omega]; exact h')⟩
theorem VC_of_VL {S : Nat → Nat → Prop} {w : World} {b : Nat} : ∀ (xs : List AV) (vs : List Value) (o : Nat), VL S w xs vs → (∀ j v, vs[j]? = some v → S b (o + j) ∧ w.cell? ⟨b, o + j, none⟩ = some v) → VC S w xs b o
  | [], _, _, _, _ => by simp only [VC]
  | x :: xs, vs, o, h, hc => by
    simp only [VL] at h
    obtain ⟨v, r, rfl, h1, h2, h3⟩ := h
    simp only [VC]
    have h0 := hc 0 v rfl
    refine ⟨h0.1, ⟨v, h0.2, h1, h2⟩, VC_of_VL xs r (o + 1) h3 fun j u hj => ?_⟩
    have := hc (j + 1) u (by simpa using hj)
    rw [show o + (j + 1) = o + 1 + j by omega] at this
    exact this
theorem VC_terms {S : Nat → Nat → Prop} {w : World} {b : Nat} (R : Nat) : ∀ (len o : Nat), (∀ i, i < len → ∃ t, bigT R t ∧ fewT R t ∧ VC S w (cellsT t) b (o + i * 6)) → ∃ ks : List T, ks.length = len ∧ bigK R ks ∧ fewK R ks ∧ VC S w (cellsK ks) b o
  | 0, o, _ => ⟨[], rfl, by simp only [bigK], by simp only [fewK], by simp only [cellsK, VC]⟩
  | len + 1, o, h => by
    obtain ⟨t, h1, h2, h3⟩ := h 0 (by omega)
    obtain ⟨ks, k0, k1, k2, k3⟩ := VC_terms R len (o + 6) fun i hi => by
      obtain ⟨t, a1, a2, a3⟩ := h (i + 1) (by omega)
      exact ⟨t, a1, a2, by rw [show o + 6 + i * 6 = o + (i + 1) * 6 by omega]; exact a3⟩
    refine ⟨t :: ks, by simp [k0], by simp only [bigK]; exact ⟨h1, k1⟩, by simp only [fewK]; exact ⟨h2, k2⟩, ?_⟩
    simp only [cellsK]
    exact VC_app _ _ _ (by simpa using h3) (by rw [cellsT_len]; exact k3)
theorem cell_lt {w : World} {a : Addr} {v : Value} (h : w.cell? a = some v) : a.block < w.heap.size := by
  rw [World.cell?] at h
  cases hb : w.heap[a.block]? with
  | none => simp only [hb] at h; cases h
  | some o => exact (Array.getElem?_eq_some_iff.mp hb).1
theorem add_none (b o i : Nat) : (⟨b, o, none⟩ : Addr).add i = ⟨b, o + i, none⟩ := by
  unfold Addr.add
  split
  · rename_i h; rw [h]; rfl
  · rfl
theorem V0_str {S : Nat → Nat → Prop} {w : World} (s : ByteArray) : V0 S w (.str s.data.toList) (.string s) := by simp [V0]
section
variable {H : Type} {enc : TypeId × Value → H} {w : World} {base : Nat} {held : Bool}
theorem openT_cells : ∀ (fuel : Nat) (cs : List Value) (x : DataW H × List MemPlace), DataW.trod enc Tryd.prog w base (fun _ => true) held fuel 28 cs = some x →
    ∃ t : T, bigT R0 t ∧ fewT R0 t ∧ VL (old w) w (cellsT t) cs ∧ cs.length = 6
  | fuel, cs, x, h => by
    obtain ⟨f0, f1, f2, f3, f4, hu, ⟨t0, t1, t2, t3, t4⟩, ⟨o0, o1, o2, o3, o4⟩⟩ := und28
    obtain ⟨xs, n, hfu, _, hl, hxs, hf⟩ := DataW.trod_struct hu h
    rw [cells28] at hl
    match cs, hl with
    | [c0, c1, c2, c3, c4, c5], _ =>
      match xs, hxs with
      | [y0, y1, y2, y3, y4], _ =>
        have g0 := hf 0 f0 rfl
        have g1 := hf 1 f1 rfl
        have g2 := hf 2 f2 rfl
        have g3 := hf 3 f3 rfl
        have g4 := hf 4 f4 rfl
        rw [t0, o0, cellsI] at g0
        rw [t1, o1, cells24] at g1
        rw [t2, o2, cellsS] at g2
        rw [t3, o3, cellsI] at g3
        rw [t4, o4, cellsTk] at g4
        simp only [List.drop_zero, List.drop_succ_cons, List.take_succ_cons, List.take_zero, List.getElem?_cons_zero, List.getElem?_cons_succ] at g0 g1 g2 g3 g4
        obtain ⟨k, e0, _, _⟩ := DataW.trod_int Tryd.underlying3 g0
        obtain ⟨s, e2, _, hs⟩ := DataW.trod_string Tryd.underlying9 g2
        obtain ⟨m, e3, _, _⟩ := DataW.trod_int Tryd.underlying3 g3
        simp only [List.cons.injEq, and_true] at e0 e2 e3
        subst e0; subst e2; subst e3
        obtain ⟨n0, n1, hnu, s0, s1, p0, p1⟩ := und24
        obtain ⟨ys, n', _, _, hl2, hys, hf2⟩ := DataW.trod_struct hnu g1
        match ys, hys with
        | [z0, z1], _ =>
          have q0 := hf2 0 n0 rfl
          have q1 := hf2 1 n1 rfl
          rw [s0, p0, cells4] at q0
          rw [s1, p1, cells22] at q1
          simp only [List.drop_zero, List.drop_succ_cons, List.take_succ_cons, List.take_zero, List.getElem?_cons_zero, List.getElem?_cons_succ] at q0 q1
          obtain ⟨b, eb, _⟩ := DataW.trod_bool Tryd.underlying4 q0
          simp only [List.cons.injEq, and_true] at eb
          subst eb
          have hlim : ∃ l : List Nat, Limbs l ∧ l.length < R0 ∧ V0 (old w) w (encL .l l) c2 ∧ c2.oneCell' = true := by
            rcases open_ints Tryd.underlying23 Tryd.underlying50 (by kernel_rfl) q1 with ⟨hc, _⟩ | ⟨x, l, c, zs, hc, _, hl, hm, hz, _, hcell, hwz⟩
            · simp only [List.cons.injEq, and_true] at hc
              subst hc
              obtain ⟨l, h1, h2⟩ := limbsOf (w := w) (a := none) (len := 0) (cap := 0) (zs := []) (.inl ⟨rfl, rfl, rfl, rfl⟩)
              have hlen : l.length = 0 := by
                simp only [encL, V0] at h2
                obtain ⟨a, cap, he, _⟩ := h2
                injection he with _ h3 _
                exact h3.symm
              exact ⟨l, h1, by rw [hlen]; exact R0_in (by omega), h2, rfl⟩
            · simp only [List.cons.injEq, and_true] at hc
              subst hc
              obtain ⟨l', h1, h2⟩ := limbsOf (w := w) (a := some x) (len := l) (cap := c) (zs := zs) (.inr ⟨x, rfl, hl, hm, by simpa using hz, hcell, hwz⟩)
              have hlen : l'.length = l := by
                simp only [encL, V0] at h2
                obtain ⟨a, cap, he, _⟩ := h2
                injection he with _ h3 _
                exact h3.symm
              exact ⟨l', h1, by rw [hlen]; exact R0_in (by omega), h2, rfl⟩
          obtain ⟨l, hL, hLl, hV2, hO2⟩ := hlim
          have hkids : ∃ ks : List T, ks.length < R0 ∧ bigK R0 ks ∧ fewK R0 ks ∧ V0 (old w) w (.sl (cellsK ks) ks.length (gr .l)) c5 ∧ c5.oneCell' = true := by
            rcases DataW.trod_slice Tryd.underlying26 g4 with ⟨hc, _⟩ | ⟨a, len, cap, elems, rest, n2, hfn, hc, _, hb, hle, hm, hlen, hel, hsp, _⟩
            · simp only [List.cons.injEq, and_true] at hc
              subst hc
              refine ⟨[], R0_pos, by simp only [bigK], by simp only [fewK], ?_, rfl⟩
              simp only [V0, cellsK]
              exact ⟨none, 0, rfl, by simp, by simp [gr], by simp [Grip.isTok, gr], .inl (by simp)⟩
            · simp only [List.cons.injEq, and_true] at hc
              subst hc
              by_cases hcap : cap = 0
              · subst hcap
                have : len = 0 := by omega
                subst this
                refine ⟨[], R0_pos, by simp only [bigK], by simp only [fewK], ?_, rfl⟩
                simp only [V0, cellsK]
                exact ⟨some a, 0, rfl, by simp, by simp [gr], by simp [Grip.isTok, gr], .inl (by simp)⟩
              · have hsp := hsp rfl
                have key : ∀ i, i < cap → ∃ cs' y, w.cells? base (a.add (i * 6)) 6 = some cs' ∧ DataW.trod enc Tryd.prog w base (fun _ => true) held n2 28 cs' = some y := by
                  intro i hi
                  by_cases hil : i < len
                  · have h1 := hel i hil
                    rw [cells28] at h1
                    have h2 : elems[i]? = some (elems[i]'(by omega)) := List.getElem?_eq_getElem (by omega)
                    rw [h2] at h1
                    obtain ⟨cs', k1, k2⟩ := Option.bind_eq_some_iff.mp h1
                    exact ⟨cs', _, k1, k2⟩
                  · have h1 := hsp.2 (i - len) (by omega)
                    rw [cells28, show len + (i - len) = i by omega] at h1
                    have h2 : rest[i - len]? = some (rest[i - len]'(by omega)) := List.getElem?_eq_getElem (by omega)
                    rw [h2] at h1
                    obtain ⟨cs', k1, k2⟩ := Option.bind_eq_some_iff.mp h1
                    exact ⟨cs', _, k1, k2⟩
                obtain ⟨bl, of, spot⟩ := a
                have hs : spot = none := by
                  obtain ⟨cs', y, k1, k2⟩ := key 0 (by omega)
                  obtain ⟨_, h2, h3⟩ := World.cells?_some k1
                  have h4 := h3 0 (by omega)
                  have h5 : cs'[0]? = some (cs'[0]'(by omega)) := List.getElem?_eq_getElem (by omega)
                  rw [h5] at h4
                  simpa [Addr.add] using World.cell?_spot h4
                subst hs
                obtain ⟨ks, k0, k1, k2, k3⟩ := VC_terms (S := old w) (w := w) (b := bl) R0 len of fun i hi => by
                  obtain ⟨cs', y, a1, a2⟩ := key i (by omega)
                  obtain ⟨t, b1, b2, b3, b4⟩ := openT_cells n2 cs' y a2
                  refine ⟨t, b1, b2, VC_of_VL _ _ _ b3 fun j v hj => ?_⟩
                  obtain ⟨_, c1, c2⟩ := World.cells?_some a1
                  have hj6 : j < 6 := by rw [← c1]; exact (List.getElem?_eq_some_iff.mp hj).1
                  have c3 := c2 j hj6
                  rw [hj, add_none, add_none] at c3
                  exact ⟨cell_lt c3, c3⟩
                refine ⟨ks, by rw [k0]; exact R0_in (by omega), k1, k2, ?_, rfl⟩
                simp only [V0]
                exact ⟨_, cap, by rw [k0], by rw [k0]; exact hle, by simp [gr], by simp [Grip.isTok, gr], .inr ⟨bl, of, rfl, k3⟩⟩
          obtain ⟨ks, hk1, hk2, hk3, hk4, hk5⟩ := hkids
          refine ⟨.mk k b .l l s.data.toList m .l ks, ?_, ?_, ?_, rfl⟩
          · simp only [bigT]
            exact ⟨hL, by have : s.data.toList.length = s.size := Array.length_toList
                          rw [this]; exact R0_in (by omega), hk2⟩
          · simp only [fewT]
            exact ⟨hLl, hk1, hk3⟩
          · simp only [cellsT, VL]
            exact ⟨_, _, rfl, rfl, by simp only [V0], _, _, rfl, rfl, by simp only [V0], _, _, rfl, hO2, hV2, _, _, rfl, rfl, V0_str s, _, _, rfl, rfl, by simp only [V0], _, _, rfl, hk5, hk4, rfl⟩
termination_by fuel => fuel
decreasing_by all_goals omega
/-- A term in memory, as a statement's reading gives it. -/
def IsTerm (w : World) (v : Value) : Prop := ∃ t : T, bigT R0 t ∧ fewT R0 t ∧ V0 (old w) w (encT t) v
theorem openTerm {r : Reach} {b0 : Nat} {v : Value} {d : DataW H} {ps : List MemPlace} (hval : Value.okWide Tryd.prog w r b0 28 v) (h : DataW.Trod enc Tryd.prog w base (fun _ => true) held 28 v d ps) : IsTerm w v := by
  obtain ⟨f0, f1, f2, f3, f4, hu, _, _⟩ := und28
  obtain ⟨cs, rfl, hsz⟩ := okWide_struct hu hval
  obtain ⟨fuel, hf⟩ := h
  obtain ⟨t, h1, h2, h3, _⟩ := openT_cells fuel _ _ hf
  refine ⟨t, h1, h2, ?_⟩
  simp only [encT, V0]
  exact ⟨cs.toList, by simp, by simpa [Value.cells] using h3⟩
end
end Go.Ab

/- Rows of terms in memory, as a statement's reading gives them. No conditions. -/
namespace Go.Ab
open Go.Proofs Go.RowKit
set_option maxRecDepth 100000
def IsTerms (w : World) (a : Option Addr) (len cap : Nat) : Prop := ∃ ks : List T, ks.length = len ∧ bigK R0 ks ∧ fewK R0 ks ∧ V0 (old w) w (.sl (cellsK ks) len .loose) (.slice a len cap)
section
variable {H : Type} {enc : TypeId × Value → H} {w : World} {base : Nat} {held : Bool}
theorem openTerms {a : Option Addr} {len cap : Nat} {d : DataW H} {ps : List MemPlace} (h : DataW.Trod enc Tryd.prog w base (fun _ => true) held 26 (.slice a len cap) d ps) : IsTerms w a len cap := by
  obtain ⟨fuel, hf⟩ := h
  have hk : ∀ c5 : Value, DataW.trod enc Tryd.prog w base (fun _ => true) held fuel 26 [c5] = some (d, ps) → ∃ ks : List T, ks.length < R0 ∧ bigK R0 ks ∧ fewK R0 ks ∧ V0 (old w) w (.sl (cellsK ks) ks.length (gr .l)) c5 ∧ c5.oneCell' = true := by
    intro c5 hf
    rcases DataW.trod_slice Tryd.underlying26 hf with ⟨hc, _⟩ | ⟨a, len, cap, elems, rest, n2, hfn, hc, _, hb, hle, hm, hlen, hel, hsp, _⟩
    · simp only [List.cons.injEq, and_true] at hc
      subst hc
      refine ⟨[], R0_pos, by simp only [bigK], by simp only [fewK], ?_, rfl⟩
      simp only [V0, cellsK]
      exact ⟨none, 0, rfl, by simp, by simp [gr], by simp [Grip.isTok, gr], .inl (by simp)⟩
    · simp only [List.cons.injEq, and_true] at hc
      subst hc
      by_cases hcap : cap = 0
      · subst hcap
        have : len = 0 := by omega
        subst this
        refine ⟨[], R0_pos, by simp only [bigK], by simp only [fewK], ?_, rfl⟩
        simp only [V0, cellsK]
        exact ⟨some a, 0, rfl, by simp, by simp [gr], by simp [Grip.isTok, gr], .inl (by simp)⟩
      · have hsp := hsp rfl
        have key : ∀ i, i < cap → ∃ cs' y, w.cells? base (a.add (i * 6)) 6 = some cs' ∧ DataW.trod enc Tryd.prog w base (fun _ => true) held n2 28 cs' = some y := by
          intro i hi
          by_cases hil : i < len
          · have h1 := hel i hil
            rw [cells28] at h1
            have h2 : elems[i]? = some (elems[i]'(by omega)) := List.getElem?_eq_getElem (by omega)
            rw [h2] at h1
            obtain ⟨cs', k1, k2⟩ := Option.bind_eq_some_iff.mp h1
            exact ⟨cs', _, k1, k2⟩
          · have h1 := hsp.2 (i - len) (by omega)
            rw [cells28, show len + (i - len) = i by omega] at h1
            have h2 : rest[i - len]? = some (rest[i - len]'(by omega)) := List.getElem?_eq_getElem (by omega)
            rw [h2] at h1
            obtain ⟨cs', k1, k2⟩ := Option.bind_eq_some_iff.mp h1
            exact ⟨cs', _, k1, k2⟩
        obtain ⟨bl, of, spot⟩ := a
        have hs : spot = none := by
          obtain ⟨cs', y, k1, k2⟩ := key 0 (by omega)
          obtain ⟨_, h2, h3⟩ := World.cells?_some k1
          have h4 := h3 0 (by omega)
          have h5 : cs'[0]? = some (cs'[0]'(by omega)) := List.getElem?_eq_getElem (by omega)
          rw [h5] at h4
          simpa [Addr.add] using World.cell?_spot h4
        subst hs
        obtain ⟨ks, k0, k1, k2, k3⟩ := VC_terms (S := old w) (w := w) (b := bl) R0 len of fun i hi => by
          obtain ⟨cs', y, a1, a2⟩ := key i (by omega)
          obtain ⟨t, b1, b2, b3, b4⟩ := openT_cells n2 cs' y a2
          refine ⟨t, b1, b2, VC_of_VL _ _ _ b3 fun j v hj => ?_⟩
          obtain ⟨_, c1, c2⟩ := World.cells?_some a1
          have hj6 : j < 6 := by rw [← c1]; exact (List.getElem?_eq_some_iff.mp hj).1
          have c3 := c2 j hj6
          rw [hj, add_none, add_none] at c3
          exact ⟨cell_lt c3, c3⟩
        refine ⟨ks, by rw [k0]; exact R0_in (by omega), k1, k2, ?_, rfl⟩
        simp only [V0]
        exact ⟨_, cap, by rw [k0], by rw [k0]; exact hle, by simp [gr], by simp [Grip.isTok, gr], .inr ⟨bl, of, rfl, k3⟩⟩

  obtain ⟨ks, h1, h2, h3, h4, _⟩ := hk _ hf
  have hl : ks.length = len := by
    simp only [V0] at h4
    obtain ⟨_, _, e, _⟩ := h4
    injection e with _ e2 _
    exact e2.symm
  exact ⟨ks, hl, h2, h3, by rw [hl] at h4; exact h4⟩
end
end Go.Ab

/- Lists of terms: term.List; rows of terms that grow. Conditions: lengths in range. -/
namespace Go.Ab
open Go.Proofs
set_option maxRecDepth 100000
set_option linter.unusedSimpArgs false

theorem callQ_loose {call : FuncId → List Arg → Option Out} {f : FuncId} {vs vs' : List AV} {v : AV} {os : List (List AV)} (h0 : vs.all isTree = false) (ht : vs.all isLent = true) (e : vs.map loosen = vs') (hc : call f (vs'.map Arg.tree) = some (.tree v, os)) : callQ call f vs = some v := by
  have e2 : (vs.map fun v => Arg.tree (loosen v)) = vs'.map .tree := by rw [← e]; simp
  simp only [callQ, h0, ht, Bool.false_eq_true, if_false, if_true, e2, hc, Option.bind_some]
/-- A cell of a list. -/
def consT (h t : T) : T := .mk 4 false .n [] [] 0 .t [h, t]
def listT : List T → T → T
  | [], t => t
  | h :: r, t => consT h (listT r t)
theorem cells_cons (h t : T) : cellsT (consT h t) = consV (cellsT h) (cellsT t) := by
  simp only [consT, cellsT, cellsK, consV, List.append_nil, encL, encC, List.map_nil, List.length_nil, gr, List.length_cons, Nat.reduceAdd]
theorem chunk_K (ks : List T) (i : Nat) (t : T) (r : List T) (h : ks.drop i = t :: r) : chunk (cellsK ks) i = cellsT t := by
  rw [chunk, cellsK_drop, h]
  simp only [cellsK]
  rw [List.take_append_of_le_length (by rw [cellsT_len]; exact Nat.le_refl _), List.take_of_length_le (by rw [cellsT_len]; exact Nat.le_refl _)]
theorem listT_snoc (h : T) : ∀ (r : List T) (t : T), listT (r ++ [h]) t = listT r (consT h t)
  | [], t => rfl
  | a :: r, t => by simp only [List.cons_append, listT, listT_snoc h r t]
theorem lstN_K (ks : List T) : ∀ (n : Nat) (t : T), n ≤ ks.length → lstN (cellsK ks) n (cellsT t) = cellsT (listT (ks.take n) t)
  | 0, t, _ => rfl
  | n + 1, t, h => by
    have hd : ks.drop n = ks[n] :: ks.drop (n + 1) := List.drop_eq_getElem_cons h
    rw [lstN, chunk_K ks n _ _ hd, ← cells_cons, lstN_K ks n _ (by omega), List.take_succ_eq_append_getElem h, listT_snoc]
theorem tList_eq (n d : Nat) (ks : List T) (g : Grip) (t : T) (h : ks.length ≤ 9223372036854775807) : evalFn Tryd.prog cfg0 n (d+1) 18 [.tree (.sl (cellsK ks) ks.length g), .tree (encT t)] = some (.tree (encT (listT ks t)), [[], []]) := by
  have hp : prim0 18 [.tree (.sl (cellsK ks) ks.length g), .tree (encT t)] = some (.tree (encT (listT ks t)), [[], []]) := by
    unfold prim0
    rw [if_neg (by decide), if_pos (by decide)]
    have e := lstN_K ks ks.length t (Nat.le_refl _)
    rw [List.take_length] at e
    simp only [listP, encT]
    rw [if_pos ⟨cellsK_len ks, cellsT_len t, h⟩, e]
  have hc : cfg0.prim = prim0 := rfl
  rw [evalFn]
  simp only [hc, hp]
/-! ### Rows that grow -/
theorem by28 : decide (byOf Tryd.prog 28 ≤ 200) = true := by kernel_rfl
theorem zl28 : (zeroOf Tryd.prog 28).map List.length = some 6 := by kernel_rfl
/-- A row that is being made at one place. -/
def Ap (s : St) (d : Nat) (x : AV) (us : List T) : Prop := (us = [] ∧ x = .sl [] 0 .nil) ∨ (us ≠ [] ∧ ∃ t, x = .sl (cellsK us) us.length (.tok d t) ∧ s d = ⟨t, .tok 6⟩)
theorem Ap.push {s : St} {d : Nat} {x : AV} {us : List T} (h : Ap s d x us) (hl : us.length ≤ 1000000) (v : T) :
    ∃ x' s', appendA Tryd.prog #[26, 26] d s x (.sl (cellsT v) 1 .tight) = some (x', s') ∧ Ap s' d x' (us ++ [v]) ∧ ∀ q, q ≠ d → s' q = s q := by
  have hb := of_decide_eq_true by28
  have hk : cellsK (us ++ [v]) = cellsK us ++ cellsT v := by rw [cellsK_append]; simp only [cellsK, List.append_nil]
  have hm : ∀ s, moreA Tryd.prog 28 6 (some 26) s (.sl (cellsT v) 1 .tight) = some (cellsT v, 1) := fun s => by
    simp only [moreA, Option.map_some, tkTk, cellsT_len, Nat.one_mul, ↓reduceIte]
  have hc : (us.length + 1) * byOf Tryd.prog 28 ≤ 140737488355328 ∧ us.length + 1 ≤ 9223372036854775807 := by
    have : (us.length + 1) * byOf Tryd.prog 28 ≤ 1000001 * 200 := Nat.mul_le_mul (by omega) hb
    omega
  rcases h with ⟨rfl, rfl⟩ | ⟨_, t, rfl, hs⟩
  · refine ⟨_, upd s d ⟨(s d).t + 1, .tok 6⟩, ?_, .inr ⟨by simp, (s d).t + 1, rfl, upd_same _ _ _⟩, fun q hq => upd_ne _ _ hq⟩
    simp only [appendA, List.getElem?_toArray, List.getElem?_cons_zero, List.getElem?_cons_succ, Option.map_some, tkTk, eszT, Option.bind_some, hm, baseA, List.length_nil, Nat.zero_mul, ↓reduceIte, zl28, and_true]
    rw [if_pos (by simpa using hc)]
    simp [cellsK]
  · refine ⟨_, upd (upd s d ⟨t, .dead⟩) d ⟨t + 1, .tok 6⟩, ?_, .inr ⟨by simp, t + 1, rfl, upd_same _ _ _⟩, fun q hq => (upd_ne _ _ hq).trans (upd_ne _ _ hq)⟩
    simp only [appendA, List.getElem?_toArray, List.getElem?_cons_zero, List.getElem?_cons_succ, Option.map_some, tkTk, eszT, Option.bind_some, hm, baseA, hs, cellsK_len, and_self, ↓reduceIte, zl28, and_true]
    rw [if_pos hc]
    simp only [upd_same, List.length_append, List.length_cons, List.length_nil, Nat.zero_add, hk]
/-- The row behind it all, as a term's. -/
def kgOf (us : List T) : Gk := if us = [] then .n else .l
theorem Ap.settled {s : St} {d : Nat} {x : AV} {us : List T} (h : Ap s d x us) : Go.Ab.settled x = some (.sl (cellsK us) us.length (gr (kgOf us))) := by
  rcases h with ⟨rfl, rfl⟩ | ⟨hu, t, rfl, _⟩
  · rfl
  · simp only [Go.Ab.settled, kgOf, if_neg hu, gr]
end Go.Ab

/- Terms in their order: mathematics. Conditions: terms that may be. -/
namespace Go.Ab
open Go.Proofs
set_option maxRecDepth 100000
set_option linter.unusedSimpArgs false

def Tr (x y z : Int) : Prop := (x ≤ 0 → y ≤ 0 → z ≤ 0) ∧ (x < 0 → y ≤ 0 → z < 0) ∧ (x ≤ 0 → y < 0 → z < 0) ∧ (x = 0 → y = 0 → z = 0)
theorem or2_neg {p q p' q' : Int} (h : p' = -p) (h' : p = 0 → q' = -q) : or2 p' q' = - or2 p q := by
  unfold or2
  by_cases e : p = 0
  · rw [if_pos e, if_pos (by omega)]; exact h' e
  · rw [if_neg e, if_neg (by omega)]; exact h
theorem or2_zero {p q : Int} : or2 p q = 0 ↔ p = 0 ∧ q = 0 := by
  unfold or2
  by_cases e : p = 0
  · rw [if_pos e]; exact ⟨fun h => ⟨e, h⟩, fun h => h.2⟩
  · rw [if_neg e]; exact ⟨fun h => absurd h e, fun h => absurd h.1 e⟩
theorem Tr.or2 {p1 p2 p3 q1 q2 q3 : Int} (h : Tr p1 p2 p3) (h' : p1 = 0 → p2 = 0 → Tr q1 q2 q3) : Tr (or2 p1 q1) (or2 p2 q2) (or2 p3 q3) := by
  unfold Go.Ab.or2
  by_cases e1 : p1 = 0
  · by_cases e2 : p2 = 0
    · have e3 := h.2.2.2 e1 e2
      rw [if_pos e1, if_pos e2, if_pos e3]
      exact h' e1 e2
    · rw [if_pos e1, if_neg e2]
      by_cases e3 : p3 = 0
      · rw [if_pos e3]
        unfold Tr at *
        omega
      · rw [if_neg e3]
        unfold Tr at *
        omega
  · rw [if_neg e1]
    by_cases e2 : p2 = 0
    · rw [if_pos e2]
      by_cases e3 : p3 = 0
      · rw [if_pos e3]
        unfold Tr at *
        omega
      · rw [if_neg e3]
        unfold Tr at *
        omega
    · rw [if_neg e2]
      by_cases e3 : p3 = 0
      · rw [if_pos e3]
        unfold Tr at *
        omega
      · rw [if_neg e3]
        unfold Tr at *
        omega
theorem three_neg (a b : Int) : three b a = - three a b := by unfold three; split <;> split <;> omega
theorem three_is (a b : Int) : (a < b ∧ three a b = -1) ∨ (a = b ∧ three a b = 0) ∨ (b < a ∧ three a b = 1) := by unfold three; split <;> (try split) <;> omega
theorem three_Tr (a b c : Int) : Tr (three a b) (three b c) (three a c) := by
  have h1 := three_is a b
  have h2 := three_is b c
  have h3 := three_is a c
  unfold Tr
  omega
theorem three_zero (a b : Int) : three a b = 0 ↔ a = b := by unfold three; split <;> (try split) <;> omega
theorem cmpI_three (a b : Int) : cmpI a b = three a b := rfl
theorem bl_cons (a b : UInt8) (x y : List UInt8) : Op.bytesLess (a :: x) (b :: y) = (decide (a < b) || a == b && Op.bytesLess x y) := by rw [Op.bytesLess]
theorem strC_cons (a b : UInt8) (x y : List UInt8) : strC (a :: x) (b :: y) = or2 (three a.toNat b.toNat) (strC x y) := by
  unfold strC
  rw [bl_cons]
  by_cases h : a < b
  · have h' : (a.toNat : Int) < b.toNat := by have := UInt8.lt_iff_toNat_lt.mp h; omega
    have e : three a.toNat b.toNat = -1 := if_pos h'
    rw [e, if_pos (by simp [h])]; rfl
  · by_cases g : b < a
    · have g' : (b.toNat : Int) < a.toNat := by have := UInt8.lt_iff_toNat_lt.mp g; omega
      have e : three a.toNat b.toNat = 1 := by unfold three; rw [if_neg (by omega), if_pos g']
      have hab : a ≠ b := by intro e; subst e; exact absurd g h
      have hab' : (a == b) = false := beq_eq_false_iff_ne.mpr hab
      rw [e, if_neg (by simp [h, hab']), if_neg (by intro hh; injection hh with h1 h2; exact hab h1)]; rfl
    · have hab : a = b := by
        have h1 : ¬ a.toNat < b.toNat := fun hh => h (UInt8.lt_iff_toNat_lt.mpr hh)
        have h2 : ¬ b.toNat < a.toNat := fun hh => g (UInt8.lt_iff_toNat_lt.mpr hh)
        exact UInt8.toNat_inj.mp (by omega)
      subst hab
      have e : three a.toNat a.toNat = 0 := (three_zero _ _).mpr rfl
      rw [e]
      have hb : (decide (a < a) || (a == a) && Op.bytesLess x y) = Op.bytesLess x y := by simp [h]
      rw [or2_0 rfl]
      by_cases hx : Op.bytesLess x y = true
      · rw [if_pos (by simp [hx]), if_pos hx]
      · rw [if_neg (by simp [h]; simpa using hx), if_neg hx]
        by_cases hxy : x = y
        · rw [if_pos (by rw [hxy]), if_pos hxy]
        · rw [if_neg (by intro hh; injection hh with h1 h2; exact hxy h2), if_neg hxy]
theorem strC_nil : strC [] [] = 0 := rfl
theorem strC_nc (a : UInt8) (x : List UInt8) : strC [] (a :: x) = -1 := rfl
theorem strC_cn (a : UInt8) (x : List UInt8) : strC (a :: x) [] = 1 := by
  unfold strC Op.bytesLess
  rw [if_neg (by simp), if_neg (by simp)]
theorem strC_neg : ∀ x y : List UInt8, strC y x = - strC x y
  | [], [] => rfl
  | [], a :: x => by rw [strC_nc, strC_cn]; rfl
  | a :: x, [] => by rw [strC_nc, strC_cn]
  | a :: x, b :: y => by
    rw [strC_cons, strC_cons]
    exact or2_neg (three_neg _ _) (fun _ => strC_neg x y)
theorem strC_zero (x y : List UInt8) : strC x y = 0 ↔ x = y := by
  constructor
  · unfold strC
    split
    · intro h; omega
    · split
      · intro _; assumption
      · intro h; omega
  · intro h; subst h
    have := strC_neg x x
    omega
theorem strC_Tr : ∀ x y z : List UInt8, Tr (strC x y) (strC y z) (strC x z)
  | [], [], z => by rw [strC_nil]; unfold Tr; omega
  | [], b :: y, [] => by rw [strC_nc, strC_cn, strC_nil]; unfold Tr; omega
  | [], b :: y, c :: z => by rw [strC_nc, strC_nc]; unfold Tr; omega
  | a :: x, [], [] => by rw [strC_cn, strC_nil]; unfold Tr; omega
  | a :: x, [], c :: z => by rw [strC_cn, strC_nc]; unfold Tr; omega
  | a :: x, b :: y, [] => by rw [strC_cn, strC_cn]; unfold Tr; omega
  | a :: x, b :: y, c :: z => by
    rw [strC_cons, strC_cons, strC_cons]
    exact (three_Tr _ _ _).or2 fun _ _ => strC_Tr x y z
/-- What is left to be compared, of one kind. -/
def restC (k : Int) (a b : T) : Int :=
  if k = 1 then cmpI (numT a) (numT b) else if k = 2 ∨ k = 6 then strC (strT a) (strT b) else if k = 5 then or2 (three (kidsT a).length (kidsT b).length) (cmpL (kidsT a) (kidsT b)) else 0
theorem cmp_4 (n1 : Bool) (lg : Gk) (l : List Nat) (s : List UInt8) (i1 : Int) (kg : Gk) (x y : T) (n2 : Bool) (lg' : Gk) (l' : List Nat) (s' : List UInt8) (i2 : Int) (kg' : Gk) (x' y' : T) :
    cmpT (.mk 4 n1 lg l s i1 kg [x, y]) (.mk 4 n2 lg' l' s' i2 kg' [x', y']) = or2 (cmpT x x') (cmpT y y') := by
  simp only [cmpT, kindT, kidsT, and_self, ↓reduceIte, cmpC, cmpD, List.headD_cons, List.tail_cons]
theorem cmp_k (a b : T) (h : ¬ (kindT a = 4 ∧ kindT b = 4)) : cmpT a b = or2 (three (rankI (kindT a)) (rankI (kindT b))) (restC (kindT a) a b) := by
  obtain ⟨k, n1, lg, l, s, i1, kg, ks⟩ := a
  obtain ⟨k', n2, lg', l', s', i2, kg', ks'⟩ := b
  simp only [kindT] at h
  first
    | (simp only [cmpT, kindT, h, ↓reduceIte, restC, numT, strT, kidsT]; done)
    | (simp only [cmpT, kindT, h, ↓reduceIte, restC, numT, strT, kidsT]; rfl)
theorem good_4 {t : T} (h : goodT t) (hk : kindT t = 4) : ∃ x y, (∃ n1 lg l s i1 kg, t = .mk 4 n1 lg l s i1 kg [x, y]) ∧ goodT x ∧ goodT y ∧ nodT t = nodT x + nodT y + 1 := by
  obtain ⟨k, n1, lg, l, s, i1, kg, ks⟩ := t
  simp only [kindT] at hk
  subst hk
  obtain ⟨x, y, rfl⟩ := own_kids (good_own h).2.1 rfl
  have := (good_own h).2.2
  simp only [goodK, and_true] at this
  exact ⟨x, y, ⟨_, _, _, _, _, _, rfl⟩, this.1, this.2, by simp only [nodT, nodK]; omega⟩
theorem cmpL_neg : ∀ us vs : List T, (∀ x ∈ us, ∀ y ∈ vs, cmpT y x = - cmpT x y) → cmpL vs us = - cmpL us vs
  | [], [], _ => by simp only [cmpL]; rfl
  | [], _ :: _, _ => by simp only [cmpL]; rfl
  | _ :: _, [], _ => by simp only [cmpL]
  | x :: r, y :: q, h => by
    simp only [cmpL]
    exact or2_neg (h x (by simp) y (by simp)) fun _ => cmpL_neg r q fun x hx y hy => h x (by simp [hx]) y (by simp [hy])
theorem cmpL_Tr : ∀ us vs ws : List T, us.length = vs.length → vs.length = ws.length → (∀ x ∈ us, ∀ y ∈ vs, ∀ z ∈ ws, Tr (cmpT x y) (cmpT y z) (cmpT x z)) → Tr (cmpL us vs) (cmpL vs ws) (cmpL us ws)
  | [], [], [], _, _, _ => by simp only [cmpL]; unfold Tr; omega
  | x :: r, y :: q, z :: p, h1, h2, h => by
    simp only [cmpL]
    exact (h x (by simp) y (by simp) z (by simp)).or2 fun _ _ => cmpL_Tr r q p (by simpa using h1) (by simpa using h2) fun x hx y hy z hz => h x (by simp [hx]) y (by simp [hy]) z (by simp [hz])
theorem cmpL_zero : ∀ us vs : List T, us.length = vs.length → (∀ x ∈ us, ∀ y ∈ vs, (cmpT x y = 0 ↔ sameT x y = true)) → (cmpL us vs = 0 ↔ sameK us vs = true)
  | [], [], _, _ => by simp only [cmpL, sameK]
  | x :: r, y :: q, hl, h => by
    simp only [cmpL, sameK, Bool.and_eq_true]
    rw [or2_zero, h x (by simp) y (by simp), cmpL_zero r q (by simpa using hl) fun x hx y hy => h x (by simp [hx]) y (by simp [hy])]
theorem goodK_mem : ∀ (ks : List T), goodK ks → ∀ t ∈ ks, goodT t ∧ nodT t ≤ nodK ks
  | [], _, t, ht => by cases ht
  | a :: q, h, t, ht => by
    simp only [goodK] at h
    simp only [nodK]
    rcases List.mem_cons.mp ht with rfl | ht
    · exact ⟨h.1, by omega⟩
    · have := goodK_mem q h.2 t ht
      exact ⟨this.1, by omega⟩
theorem good_kidsT {t : T} (h : goodT t) : goodK (kidsT t) := by
  obtain ⟨k, n1, lg, l, s, i1, kg, ks⟩ := t
  exact (good_own h).2.2
theorem good_kindT {t : T} (h : goodT t) : 1 ≤ kindT t ∧ kindT t ≤ 6 := by
  obtain ⟨k, n1, lg, l, s, i1, kg, ks⟩ := t
  exact good_kind h
theorem nod_kids (t : T) : nodT t = nodK (kidsT t) + 1 := by
  obtain ⟨k, n1, lg, l, s, i1, kg, ks⟩ := t
  rfl
theorem cmp_neg : ∀ (N : Nat) (a b : T), nodT a ≤ N → goodT a → goodT b → cmpT b a = - cmpT a b
  | 0, a, b, hN, _, _ => by have := nod_pos a; omega
  | N + 1, a, b, hN, ha, hb => by
    by_cases h4 : kindT a = 4 ∧ kindT b = 4
    · obtain ⟨x, y, ⟨n1, lg, l, s, i1, kg, rfl⟩, gx, gy, hn⟩ := good_4 ha h4.1
      obtain ⟨x', y', ⟨n2, lg', l', s', i2, kg', rfl⟩, gx', gy', _⟩ := good_4 hb h4.2
      rw [cmp_4, cmp_4]
      have := nod_pos x
      have := nod_pos y
      exact or2_neg (cmp_neg N x x' (by omega) gx gx') fun _ => cmp_neg N y y' (by omega) gy gy'
    · rw [cmp_k a b h4, cmp_k b a (fun h => h4 ⟨h.2, h.1⟩)]
      refine or2_neg (three_neg _ _) fun e => ?_
      have hk := rank_inj (good_kindT ha) (good_kindT hb) e
      rw [← hk]
      unfold restC
      split
      · exact three_neg _ _
      split
      · exact strC_neg _ _
      split
      · refine or2_neg (three_neg _ _) fun _ => cmpL_neg _ _ fun x hx y hy => ?_
        have h1 := goodK_mem _ (good_kidsT ha) x hx
        have h2 := goodK_mem _ (good_kidsT hb) y hy
        have := nod_kids a
        exact cmp_neg N x y (by omega) h1.1 h2.1
      · rfl
theorem cmp_Tr : ∀ (N : Nat) (a b c : T), nodT a ≤ N → goodT a → goodT b → goodT c → Tr (cmpT a b) (cmpT b c) (cmpT a c)
  | 0, a, b, c, hN, _, _, _ => by have := nod_pos a; omega
  | N + 1, a, b, c, hN, ha, hb, hc => by
    by_cases h4 : kindT a = 4 ∧ kindT b = 4 ∧ kindT c = 4
    · obtain ⟨x, y, ⟨n1, lg, l, s, i1, kg, rfl⟩, gx, gy, hn⟩ := good_4 ha h4.1
      obtain ⟨x', y', ⟨n2, lg', l', s', i2, kg', rfl⟩, gx', gy', _⟩ := good_4 hb h4.2.1
      obtain ⟨x2, y2, ⟨n3, lg2, l2, s2, i3, kg2, rfl⟩, gx2, gy2, _⟩ := good_4 hc h4.2.2
      rw [cmp_4, cmp_4, cmp_4]
      have := nod_pos x
      have := nod_pos y
      exact (cmp_Tr N x x' x2 (by omega) gx gx' gx2).or2 fun _ _ => cmp_Tr N y y' y2 (by omega) gy gy' gy2
    · have key : ∀ a b : T, goodT a → goodT b → ∃ q, cmpT a b = or2 (three (rankI (kindT a)) (rankI (kindT b))) q ∧ (¬ (kindT a = 4 ∧ kindT b = 4) → q = restC (kindT a) a b) := by
        intro a b ha hb
        by_cases h : kindT a = 4 ∧ kindT b = 4
        · exact ⟨cmpT a b, by rw [or2_0 (by rw [h.1, h.2]; rfl)], fun h' => absurd h h'⟩
        · exact ⟨_, cmp_k a b h, fun _ => rfl⟩
      obtain ⟨q1, e1, r1⟩ := key a b ha hb
      obtain ⟨q2, e2, r2⟩ := key b c hb hc
      obtain ⟨q3, e3, r3⟩ := key a c ha hc
      rw [e1, e2, e3]
      refine (three_Tr _ _ _).or2 fun z1 z2 => ?_
      have k1 := rank_inj (good_kindT ha) (good_kindT hb) z1
      have k2 := rank_inj (good_kindT hb) (good_kindT hc) z2
      have hk4 : kindT a ≠ 4 := fun e => h4 ⟨e, k1 ▸ e, k2 ▸ k1 ▸ e⟩
      rw [r1 fun h => hk4 h.1, r2 fun h => hk4 (k1 ▸ h.1), r3 fun h => hk4 h.1, ← k1]
      unfold restC
      split
      · exact three_Tr _ _ _
      split
      · exact strC_Tr _ _ _
      split
      · refine (three_Tr _ _ _).or2 fun l1 l2 => ?_
        have l1 := (three_zero _ _).mp l1
        have l2 := (three_zero _ _).mp l2
        refine cmpL_Tr _ _ _ (by omega) (by omega) fun x hx y hy z hz => ?_
        have h1 := goodK_mem _ (good_kidsT ha) x hx
        have h2 := goodK_mem _ (good_kidsT hb) y hy
        have h3 := goodK_mem _ (good_kidsT hc) z hz
        have := nod_kids a
        exact cmp_Tr N x y z (by omega) h1.1 h2.1 h3.1
      · unfold Tr; omega
theorem numZ_inj {b b' : Bool} {l l' : List Nat} (hl : Limbs l) (hl' : Limbs l') (h : chkN b l = true) (h' : chkN b' l' = true) (e : numZ b l = numZ b' l') : b = b' ∧ l = l' := by
  have h1 := numZ_is hl h
  have h2 := numZ_is hl' h'
  rw [← e] at h2
  exact ⟨h1.2.1.symm.trans h2.2.1, h1.2.2.symm.trans h2.2.2⟩
theorem cmp_same : ∀ (N : Nat) (a b : T), nodT a ≤ N → goodT a → goodT b → (cmpT a b = 0 ↔ sameT a b = true)
  | 0, a, b, hN, _, _ => by have := nod_pos a; omega
  | N + 1, a, b, hN, ha, hb => by
    by_cases h4 : kindT a = 4 ∧ kindT b = 4
    · obtain ⟨x, y, ⟨n1, lg, l, s, i1, kg, rfl⟩, gx, gy, hn⟩ := good_4 ha h4.1
      obtain ⟨x', y', ⟨n2, lg', l', s', i2, kg', rfl⟩, gx', gy', _⟩ := good_4 hb h4.2
      rw [cmp_4, or2_zero]
      have := nod_pos x
      have := nod_pos y
      rw [cmp_same N x x' (by omega) gx gx', cmp_same N y y' (by omega) gy gy']
      simp [sameT, kindT, kidsT, sameK]
    · rw [cmp_k a b h4, or2_zero, three_zero]
      by_cases hk : kindT a = kindT b
      · have hk4 : kindT a ≠ 4 := fun e => h4 ⟨e, hk ▸ e⟩
        rw [hk, eq_self_iff_true, true_and]
        obtain ⟨k, n1, lg, l, s, i1, kg, ks⟩ := a
        obtain ⟨k', n2, lg', l', s', i2, kg', ks'⟩ := b
        simp only [kindT] at hk hk4
        subst hk
        have oa := good_own ha
        have ob := good_own hb
        have kk := good_kind ha
        by_cases h1 : k = 1
        · subst h1
          have ca : chkN n1 l = true := by have := oa.2.1; simp only [ownT, ↓reduceIte, Bool.and_eq_true] at this; exact this.2.1.1.1
          have cb : chkN n2 l' = true := by have := ob.2.1; simp only [ownT, ↓reduceIte, Bool.and_eq_true] at this; exact this.2.1.1.1
          have e1 : restC 1 (.mk 1 n1 lg l s i1 kg ks) (.mk 1 n2 lg' l' s' i2 kg' ks') = three (numZ n1 l) (numZ n2 l') := rfl
          have e2 : sameT (.mk 1 n1 lg l s i1 kg ks) (.mk 1 n2 lg' l' s' i2 kg' ks') = (decide (n1 = n2) && decide (l = l')) := by first | (simp [sameT, kindT, sgnT, limT]; done) | (simp [sameT, kindT, sgnT, limT]; rfl)
          simp only [kindT]
          rw [e1, e2, three_zero, Bool.and_eq_true, decide_eq_true_eq, decide_eq_true_eq]
          exact ⟨numZ_inj oa.1 ob.1 ca cb, fun h => by rw [h.1, h.2]⟩
        by_cases h26 : k = 2 ∨ k = 6
        · have e1 : restC k (.mk k n1 lg l s i1 kg ks) (.mk k n2 lg' l' s' i2 kg' ks') = strC s s' := by unfold restC; rw [if_neg h1, if_pos h26]; rfl
          have e2 : sameT (.mk k n1 lg l s i1 kg ks) (.mk k n2 lg' l' s' i2 kg' ks') = decide (s = s') := by first | (simp [sameT, kindT, strT, h1, h26]; done) | (simp [sameT, kindT, strT, h1, h26]; rfl)
          simp only [kindT]
          rw [e1, e2, strC_zero, decide_eq_true_eq]
        by_cases h5 : k = 5
        · subst h5
          have e1 : restC 5 (.mk 5 n1 lg l s i1 kg ks) (.mk 5 n2 lg' l' s' i2 kg' ks') = or2 (three ks.length ks'.length) (cmpL ks ks') := rfl
          have e2 : sameT (.mk 5 n1 lg l s i1 kg ks) (.mk 5 n2 lg' l' s' i2 kg' ks') = sameK ks ks' := by simp [sameT, kindT, kidsT]
          simp only [kindT]
          rw [e1, e2, or2_zero, three_zero]
          constructor
          · intro ⟨hl, hc⟩
            exact (cmpL_zero _ _ (by omega) fun x hx y hy => cmp_same N x y (by have := (goodK_mem ks oa.2.2 x hx).2; simp only [nodT] at hN; omega) (goodK_mem ks oa.2.2 x hx).1 (goodK_mem ks' ob.2.2 y hy).1).mp hc
          · intro hs
            have hl : ks.length = ks'.length := by
              by_cases e : ks.length = ks'.length
              · exact e
              · rw [sameK_len _ _ e] at hs; cases hs
            exact ⟨by omega, (cmpL_zero _ _ (by omega) fun x hx y hy => cmp_same N x y (by have := (goodK_mem ks oa.2.2 x hx).2; simp only [nodT] at hN; omega) (goodK_mem ks oa.2.2 x hx).1 (goodK_mem ks' ob.2.2 y hy).1).mpr hs⟩
        have h3 : k = 3 := by omega
        subst h3
        simp [restC, kindT, sameT]
      · constructor
        · intro ⟨h, _⟩
          exact absurd (rank_inj (good_kindT ha) (good_kindT hb) ((three_zero _ _).mpr h)) hk
        · intro h
          exfalso
          obtain ⟨k, n1, lg, l, s, i1, kg, ks⟩ := a
          have hk' : k ≠ kindT b := hk
          simp only [sameT, if_neg hk'] at h
          cases h
end Go.Ab
