/- The statement NumTexts, abstractly. Conditions: limbs in range. -/
import Derived.Test.YtdibanolokkniaaDoorAbnXX
namespace Go.Ab
open Go.Proofs
set_option maxRecDepth 100000
set_option linter.unusedSimpArgs false

theorem parseR_lt (s : List UInt8) : (parseR s).1.natAbs < B ^ 12 := by
  have h0 : (0 : Int).natAbs < B ^ 12 := Nat.pow_pos (by decide)
  unfold parseR
  (repeat' split) <;> first | exact mkZ_lt _ | exact h0
theorem text_0 : textZ 0 = [48] := rfl
theorem numZ_no {b : Bool} {l : List Nat} (h : chkN b l = false) : numZ b l = 0 := by unfold numZ; rw [h]; rfl
theorem text_len (z : Int) (h : z.natAbs < B ^ 12) : (textZ z).length ≤ 200 := by
  have := dec_len 116 z.natAbs (Nat.lt_trans h B12_ten)
  unfold textZ
  (repeat' split)
  · decide
  · rw [List.length_cons]; omega
  · omega
set_option maxHeartbeats 32000000 in
theorem texts_eqN (b : Bool) (g : Gk) (l : List Nat) (hL : Limbs l) (s0 : List UInt8) : evalFn Tryd.prog cfg0 100000 13 9 [.tree (encA b g l), .tree (.str s0)] = some (.tree (.bool true), [[], []]) := by
  rw [evalFn_go _ Tryd.func9 (by unfold Tryd.f9; rfl) (by unfold Tryd.f9; decide) (Nat.le_of_ble_eq_true (by unfold Tryd.f9; rfl)) (by kernel_rfl)]
  have big := B12_big
  have w := cAwakeN
  have st2 := st0_2 (encA b g l) (.str s0)
  by_cases h20 : (l.length : Int) > 20
  · simp only [zaa, zab, zac, zad, zae, zaf, zag, zah, zai, zaj, zak, zal, zam, zan, zao, zap, zaq, zar, zas, zat, zau, zav, zaw, zax, zay, zaz, zba, zbb, zbc, zbd, zbe, zbf, zbg, zbh, zbi, zbj, Nat.reduceBEq, Bool.or_self, Bool.or_false, Bool.or_true, Bool.and_true, Bool.and_false, Bool.true_and, Bool.false_and, Option.isNone_none, Option.isNone_some, Option.isSome_some, Option.isSome_none, zbk, zbl, zbm, zbn, zbo, zbp, zbq, zbr, zbs, zbt, zbu, zbv, zbw, zbx, zby, zbz, zca, zcb, zcc, zcd, zce, zcf, zcg, zch, zci, zcj, zck, zcl, zcm, zcn, zco, zcp, zcq, zcr, zcs, zct, zcu, zcv, zcw, zcx, zcy, zcz, zda, zdb, zdc, zdd, zde, zdf, Option.getD_some, Option.getD_none, zet, zeu, zev, zew, zex, zey, zez, zfa, Option.map_some, Option.map_none, Option.bind_some, List.map_cons, List.map_nil, List.cons_append, List.nil_append, ↓reduceIte, Nat.reduceEqDiff, Nat.reduceAdd, decide_true, decide_false, Bool.true_eq_false, Bool.false_eq_true, env0, List.getElem?_cons_zero, List.getElem?_cons_succ, zdg, zdh, zdi, zdj, zdk, zdl, zdm, zdn, ia22, ld31, zdo, zdp, zdq, zdr, zds, zdt, zdu, zdv, zdw, zdx, zdy, zdz, zea, zeb, zec, fa_0, fa_1, zed, bd_0, bd_2, zee, fd_1, zef, Nat.zero_add, zeg, List.toList_toArray, len9, ix9, zeh, zei, zej, zek, zel, st2, h20, w]
    exact finish_b _ _ _ _ _ _ _ (by simp only [zfa, ↓reduceIte]) rfl
  by_cases h300 : (s0.length : Int) > 300
  · simp only [zaa, zab, zac, zad, zae, zaf, zag, zah, zai, zaj, zak, zal, zam, zan, zao, zap, zaq, zar, zas, zat, zau, zav, zaw, zax, zay, zaz, zba, zbb, zbc, zbd, zbe, zbf, zbg, zbh, zbi, zbj, Nat.reduceBEq, Bool.or_self, Bool.or_false, Bool.or_true, Bool.and_true, Bool.and_false, Bool.true_and, Bool.false_and, Option.isNone_none, Option.isNone_some, Option.isSome_some, Option.isSome_none, zbk, zbl, zbm, zbn, zbo, zbp, zbq, zbr, zbs, zbt, zbu, zbv, zbw, zbx, zby, zbz, zca, zcb, zcc, zcd, zce, zcf, zcg, zch, zci, zcj, zck, zcl, zcm, zcn, zco, zcp, zcq, zcr, zcs, zct, zcu, zcv, zcw, zcx, zcy, zcz, zda, zdb, zdc, zdd, zde, zdf, Option.getD_some, Option.getD_none, zet, zeu, zev, zew, zex, zey, zez, zfa, Option.map_some, Option.map_none, Option.bind_some, List.map_cons, List.map_nil, List.cons_append, List.nil_append, ↓reduceIte, Nat.reduceEqDiff, Nat.reduceAdd, decide_true, decide_false, Bool.true_eq_false, Bool.false_eq_true, env0, List.getElem?_cons_zero, List.getElem?_cons_succ, zdg, zdh, zdi, zdj, zdk, zdl, zdm, zdn, ia22, ld31, zdo, zdp, zdq, zdr, zds, zdt, zdu, zdv, zdw, zdx, zdy, zdz, zea, zeb, zec, fa_0, fa_1, zed, bd_0, bd_2, zee, fd_1, zef, Nat.zero_add, zeg, List.toList_toArray, len9, ix9, zeh, zei, zej, zek, zel, st2, h20, h300, w]
    exact finish_b _ _ _ _ _ _ _ (by simp only [zfa, ↓reduceIte]) rfl
  have n1 : IsN (encA b g l) (numZ b l) := ⟨b, g, l, rfl, hL, rfl⟩
  have m1 : IsN (encA b .l l) (numZ b l) := ⟨b, .l, l, rfl, hL, rfl⟩
  have hz := n1.lt
  have c1 := fun D s => callA_trees (cfg := cfg0) (d := D) (s := s) (f := 32) (vs := [.str s0]) rfl (parse_eq 5 s0 (by omega))
  obtain ⟨gg, hF⟩ := rparse_eq 100000 6 (Nat.le_refl _) s0 (by omega)
  have c2 := fun D s => callA_trees (cfg := cfg0) (d := D) (s := s) (f := 33) (vs := [.str s0]) rfl hF
  have hr := parseR_lt s0
  generalize parseR s0 = r at *
  obtain ⟨r, ok⟩ := r
  simp only [tupZ, tupF] at c1 c2 hr
  have en := bool_neq 4 tk4
  have p0 : (ok == ok) = true := beq_self_eq_true _
  have p1 : (textZ (numZ b l) == textZ (numZ b l)) = true := beq_self_eq_true _
  have q0 := qSameZ 100000 10 (Nat.le_refl _) r hr gg
  have q1 := qCopyN 100000 10 b g l (by omega)
  have q2 := callQ_trees (f := 34) (vs := [encA b .l l]) rfl (text_eq 100000 6 (Nat.le_refl _) m1)
  have q3 := callQ_trees (f := 35) (vs := [encA b g l]) rfl (rtext_eq 100000 7 (Nat.le_refl _) n1)
  have c3 := fun D s => cRcheck 100000 11 b g l hL D s
  have c4 := fun D s => callA_trees (cfg := cfg0) (d := D) (s := s) (f := 34) (vs := [encA b g l]) rfl (text_eq 100000 6 (Nat.le_refl _) n1)
  simp only [zaa, zab, zac, zad, zae, zaf, zag, zah, zai, zaj, zak, zal, zam, zan, zao, zap, zaq, zar, zas, zat, zau, zav, zaw, zax, zay, zaz, zba, zbb, zbc, zbd, zbe, zbf, zbg, zbh, zbi, zbj, Nat.reduceBEq, Bool.or_self, Bool.or_false, Bool.or_true, Bool.and_true, Bool.and_false, Bool.true_and, Bool.false_and, Option.isNone_none, Option.isNone_some, Option.isSome_some, Option.isSome_none, zbk, zbl, zbm, zbn, zbo, zbp, zbq, zbr, zbs, zbt, zbu, zbv, zbw, zbx, zby, zbz, zca, zcb, zcc, zcd, zce, zcf, zcg, zch, zci, zcj, zck, zcl, zcm, zcn, zco, zcp, zcq, zcr, zcs, zct, zcu, zcv, zcw, zcx, zcy, zcz, zda, zdb, zdc, zdd, zde, zdf, Option.getD_some, Option.getD_none, zet, zeu, zev, zew, zex, zey, zez, zfa, Option.map_some, Option.map_none, Option.bind_some, List.map_cons, List.map_nil, List.cons_append, List.nil_append, ↓reduceIte, Nat.reduceEqDiff, Nat.reduceAdd, decide_true, decide_false, Bool.true_eq_false, Bool.false_eq_true, env0, List.getElem?_cons_zero, List.getElem?_cons_succ, zdg, zdh, zdi, zdj, zdk, zdl, zdm, zdn, ia22, ld31, zdo, zdp, zdq, zdr, zds, zdt, zdu, zdv, zdw, zdx, zdy, zdz, zea, zeb, zec, fa_0, fa_1, zed, bd_0, bd_2, zee, fd_1, zef, Nat.zero_add, zeg, List.toList_toArray, len9, ix9, zeh, zei, zej, zek, zel, st2, h20, h300, c1, c2, ext_0, ext_1, st_Z, encZ_fold]
  refine forgetS (fun s => (binA Tryd.prog .neq 4 (.bool ok) (.bool ok)).map (·, s)) (fun env s => env 2 = .ptr 2 1 0 ∧ env 5 = .ptr 5 1 0 ∧ env 7 = .ptr 7 1 0 ∧ env 6 = .bool ok ∧ env 8 = .bool ok ∧ s 2 = ⟨1, .buf [.bool b, encL g l]⟩ ∧ s 5 = ⟨1, .buf [.bool (decide (r < 0)), encR r.natAbs]⟩ ∧ s 7 = ⟨1, .buf [.bool (decide (r < 0)), encL gg (digs r.natAbs)]⟩ ∧ (s 9).t = 0) ⟨by simp only [zfa, ↓reduceIte, Nat.reduceEqDiff], by simp only [zfa, ↓reduceIte, Nat.reduceEqDiff], by simp only [zfa, ↓reduceIte, Nat.reduceEqDiff], by simp only [zfa, ↓reduceIte, Nat.reduceEqDiff], by simp only [zfa, ↓reduceIte, Nat.reduceEqDiff], by simp only [zfa, ↓reduceIte, Nat.reduceEqDiff], by simp only [zfa, ↓reduceIte, Nat.reduceEqDiff], by simp only [zfa, ↓reduceIte, Nat.reduceEqDiff], by simp only [zfa, ↓reduceIte, Nat.reduceEqDiff, zdw]⟩ ?_
  clear c1 c2 hF
  intro env s ⟨e2, e5, e7, e6, e8, j2, j5, j7, t9⟩
  cases hc : chkN b l with
  | false =>
    rw [hc] at c3
    rw [numZ_no hc] at c4 p1 q2 q3
    have p2 : (textZ 0 == [48]) = true := rfl
    simp only [zaa, zab, zac, zad, zae, zaf, zag, zah, zai, zaj, zak, zal, zam, zan, zao, zap, zaq, zar, zas, zat, zau, zav, zaw, zax, zay, zaz, zba, zbb, zbc, zbd, zbe, zbf, zbg, zbh, zbi, zbj, Nat.reduceBEq, Bool.or_self, Bool.or_false, Bool.or_true, Bool.and_true, Bool.and_false, Bool.true_and, Bool.false_and, Option.isNone_none, Option.isNone_some, Option.isSome_some, Option.isSome_none, zbk, zbl, zbm, zbn, zbo, zbp, zbq, zbr, zbs, zbt, zbu, zbv, zbw, zbx, zby, zbz, zca, zcb, zcc, zcd, zce, zcf, zcg, zch, zci, zcj, zck, zcl, zcm, zcn, zco, zcp, zcq, zcr, zcs, zct, zcu, zcv, zcw, zcx, zcy, zcz, zda, zdb, zdc, zdd, zde, zdf, Option.getD_some, Option.getD_none, zet, zeu, zev, zew, zex, zey, zez, zfa, Option.map_some, Option.map_none, Option.bind_some, List.map_cons, List.map_nil, List.cons_append, List.nil_append, ↓reduceIte, Nat.reduceEqDiff, Nat.reduceAdd, decide_true, decide_false, Bool.true_eq_false, Bool.false_eq_true, env0, List.getElem?_cons_zero, List.getElem?_cons_succ, zdg, zdh, zdi, zdj, zdk, zdl, zdm, zdn, ia22, ld31, zdo, zdp, zdq, zdr, zds, zdt, zdu, zdv, zdw, zdx, zdy, zdz, zea, zeb, zec, fa_0, fa_1, zed, bd_0, bd_2, zee, fd_1, zef, Nat.zero_add, zeg, List.toList_toArray, len9, ix9, zeh, zei, zej, zek, zel, encZ_fold, en, e2, e5, e7, e6, e8, j2, j5, j7, p0, p1, p2, q0, q1, q2, q3, unA_not', Bool.not_true, Bool.not_false, c3, c4, w]
    exact finish_b _ _ _ _ _ _ _ (by simp only [zfa, ↓reduceIte]) rfl
  | true =>
    rw [hc] at c3
    have c5 := fun D s => callA_trees (cfg := cfg0) (d := D) (s := s) (f := 32) (vs := [.str (textZ (numZ b l))]) rfl (parse_eq 5 (textZ (numZ b l)) (by have := text_len _ hz; omega))
    rw [parse_text _ hz, tupZ] at c5
    have c6 : ∀ D s, callA cfg0 (evalFn Tryd.prog cfg0 100000 12) D s 16 [encZ (numZ b l), encA b g l] = some (.bool true, s) := fun D s => by
      rw [← canA_of (g := g) hL hc]
      exact callA_trees rfl (sameN_eq 100000 10 _ _ _ _ (by have := digs_len _ 12 hz; omega) (by have := digs_len _ 12 hz; omega))
    simp only [zaa, zab, zac, zad, zae, zaf, zag, zah, zai, zaj, zak, zal, zam, zan, zao, zap, zaq, zar, zas, zat, zau, zav, zaw, zax, zay, zaz, zba, zbb, zbc, zbd, zbe, zbf, zbg, zbh, zbi, zbj, Nat.reduceBEq, Bool.or_self, Bool.or_false, Bool.or_true, Bool.and_true, Bool.and_false, Bool.true_and, Bool.false_and, Option.isNone_none, Option.isNone_some, Option.isSome_some, Option.isSome_none, zbk, zbl, zbm, zbn, zbo, zbp, zbq, zbr, zbs, zbt, zbu, zbv, zbw, zbx, zby, zbz, zca, zcb, zcc, zcd, zce, zcf, zcg, zch, zci, zcj, zck, zcl, zcm, zcn, zco, zcp, zcq, zcr, zcs, zct, zcu, zcv, zcw, zcx, zcy, zcz, zda, zdb, zdc, zdd, zde, zdf, Option.getD_some, Option.getD_none, zet, zeu, zev, zew, zex, zey, zez, zfa, Option.map_some, Option.map_none, Option.bind_some, List.map_cons, List.map_nil, List.cons_append, List.nil_append, ↓reduceIte, Nat.reduceEqDiff, Nat.reduceAdd, decide_true, decide_false, Bool.true_eq_false, Bool.false_eq_true, env0, List.getElem?_cons_zero, List.getElem?_cons_succ, zdg, zdh, zdi, zdj, zdk, zdl, zdm, zdn, ia22, ld31, zdo, zdp, zdq, zdr, zds, zdt, zdu, zdv, zdw, zdx, zdy, zdz, zea, zeb, zec, fa_0, fa_1, zed, bd_0, bd_2, zee, fd_1, zef, Nat.zero_add, zeg, List.toList_toArray, len9, ix9, zeh, zei, zej, zek, zel, encZ_fold, en, e2, e5, e7, e6, e8, j2, j5, j7, t9, p0, p1, q0, q1, q2, q3, unA_not', Bool.not_true, Bool.not_false, c3, c4, c5, ext_0, ext_1, st_Z, c6, w]
    exact finish_b _ _ _ _ _ _ _ (by simp only [zfa, ↓reduceIte]) rfl
end Go.Ab
