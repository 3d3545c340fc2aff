/- The statement NumAll, abstractly. Conditions: limbs in range, an int in range. -/
import Derived.Test.YtdibanolokkniaaDoorAbnA27
namespace Go.Ab
open Go.Proofs
set_option maxRecDepth 100000
set_option linter.unusedSimpArgs false

theorem st0_4' (a b c d : AV) : st0 [.tree a, .tree b, .tree c, .tree d] = dead := by
  funext p
  match p with
  | 0 => rfl
  | 1 => rfl
  | 2 => rfl
  | 3 => rfl
  | p + 4 => rfl
theorem intZ_tup (z : Int) : intZ z = .tup [.int .i64 (if isI64 z = true then z else 0), .bool (isI64 z)] := by
  unfold intZ
  by_cases h : isI64 z = true
  · rw [if_pos h, if_pos h, h]
  · rw [if_neg h, if_neg h, eq_false_of_ne_true h]
theorem qCopyN (n d : Nat) (b : Bool) (g : Gk) (l : List Nat) (hl : l.length ≤ 1000000) : callQ (evalFn Tryd.prog cfg0 n (d+2)) 24 [encA b g l] = some (encA b .l l) :=
  callQ_trees rfl (copyN_eq n d b g l hl)
theorem cFewN (n d : Nat) (b1 b2 : Bool) (g1 g2 : Gk) (l m : List Nat) (D : Nat) (s : St) : callA cfg0 (evalFn Tryd.prog cfg0 n (d+1)) D s 23 [encA b1 g1 l, encA b2 g2 m] = some (.bool (decide ((l.length : Int) ≤ 30) && decide ((m.length : Int) ≤ 30)), s) :=
  callA_trees rfl (fewN_eq n d b1 b2 g1 g2 l m)
set_option maxHeartbeats 32000000 in
theorem all_eqN (op v : Int) (hv : -9223372036854775808 ≤ v) (hv' : v ≤ 9223372036854775807) (b1 b2 : Bool) (g1 g2 : Gk) (l1 l2 : List Nat) (h1 : Limbs l1) (h2 : Limbs l2) : evalFn Tryd.prog cfg0 100000 13 6 [.tree (.int .i64 op), .tree (encA b1 g1 l1), .tree (encA b2 g2 l2), .tree (.int .i64 v)] = some (.tree (.bool true), [[], [], [], []]) := by
  rw [evalFn_go _ Tryd.func6 (by unfold Tryd.f6; rfl) (by unfold Tryd.f6; decide) (Nat.le_of_ble_eq_true (by unfold Tryd.f6; rfl)) (by kernel_rfl)]
  have w := cAwakeN
  have wq := qAwakeN
  have cf := fun D s => cFewN 100000 11 b1 b2 g1 g2 l1 l2 D s
  by_cases hf : (decide ((l1.length : Int) ≤ 30) && decide ((l2.length : Int) ≤ 30)) = true
  · rw [hf] at cf
    have hl1 : l1.length ≤ 30 := by rw [Bool.and_eq_true, decide_eq_true_eq, decide_eq_true_eq] at hf; omega
    have hl2 : l2.length ≤ 30 := by rw [Bool.and_eq_true, decide_eq_true_eq, decide_eq_true_eq] at hf; omega
    have k1 := qCopyN 100000 10 b1 g1 l1 (by omega)
    have k2 := qCopyN 100000 10 b2 g2 l2 (by omega)
    have n1 : IsN (encA b1 g1 l1) (numZ b1 l1) := ⟨b1, g1, l1, rfl, h1, rfl⟩
    have n2 : IsN (encA b2 g2 l2) (numZ b2 l2) := ⟨b2, g2, l2, rfl, h2, rfl⟩
    have m1 : IsN (encA b1 .l l1) (numZ b1 l1) := ⟨b1, .l, l1, rfl, h1, rfl⟩
    have m2 : IsN (encA b2 .l l2) (numZ b2 l2) := ⟨b2, .l, l2, rfl, h2, rfl⟩
    generalize numZ b1 l1 = z1 at *
    generalize numZ b2 l2 = z2 at *
    have hz1 := n1.lt
    have cN := fun D s => callA_trees (cfg := cfg0) (d := D) (s := s) (f := 14) (vs := [.int .i64 op, encA b1 .l l1, encA b2 .l l2]) rfl (opN_any 100000 5 (Nat.le_refl _) m1 m2 op)
    obtain ⟨gg, hF⟩ := opF_any 100000 6 (Nat.le_refl _) n1 n2 op
    have cF := fun D s => callA_trees (cfg := cfg0) (d := D) (s := s) (f := 25) (vs := [.int .i64 op, encA b1 g1 l1, encA b2 g2 l2]) rfl hF
    have hr := opR_lt op z1 z2
    generalize opR op z1 z2 = r at *
    obtain ⟨r, ok⟩ := r
    simp only [tupZ, tupF] at cN cF hr
    have i1 := fun D s => cInt 100000 9 (Nat.le_refl _) m1 D s
    have i2 := fun D s => cRint 100000 9 (Nat.le_refl _) n1 D s
    rw [intZ_tup] at i1 i2
    simp only [zaa, zab, zac, zad, zae, zaf, zag, zah, zai, zaj, zak, zal, zam, zan, zao, zap, zaq, zar, zas, zat, zau, zav, zaw, zax, zay, zaz, zba, zbb, zbc, zbd, zbe, zbf, zbg, zbh, zbi, zbj, Nat.reduceBEq, Bool.or_self, Bool.or_false, Bool.or_true, Bool.and_true, Bool.and_false, Bool.true_and, Bool.false_and, Option.isNone_none, Option.isNone_some, Option.isSome_some, Option.isSome_none, zbk, zbl, zbm, zbn, zbo, zbp, zbq, zbr, zbs, zbt, zbu, zbv, zbw, zbx, zby, zbz, zca, zcb, zcc, zcd, zce, zcf, zcg, zch, zci, zcj, zck, zcl, zcm, zcn, zco, zcp, zcq, zcr, zcs, zct, zcu, zcv, zcw, zcx, zcy, zcz, zda, zdb, zdc, zdd, zde, zdf, Option.getD_some, Option.getD_none, zet, zeu, zev, zew, zex, zey, zez, zfa, Option.map_some, Option.map_none, Option.bind_some, List.map_cons, List.map_nil, List.cons_append, List.nil_append, ↓reduceIte, Nat.reduceEqDiff, Nat.reduceAdd, decide_true, decide_false, Bool.true_eq_false, Bool.false_eq_true, env0, List.getElem?_cons_zero, List.getElem?_cons_succ, zdg, zdh, zdi, zdj, zdk, zdl, zdm, zdn, ia22, ld31, zdo, zdp, zdq, zdr, zds, zdt, zdu, zdv, zdw, zdx, zdy, zdz, zea, zeb, zec, fa_0, fa_1, zed, bd_0, bd_2, zee, fd_1, zef, Nat.zero_add, st0_4', env0, cf, unA_not', Bool.not_true, k1, k2, cN, cF, i1, i2, ext_0, ext_1, st_Z, encZ_fold]
    have big := B12_big
    have eb := bool_eql 4 tk4
    have p0 : (ok == ok) = true := beq_self_eq_true _
    have p1 : ((if isI64 z1 = true then z1 else 0) == (if isI64 z1 = true then z1 else 0)) = true := beq_self_eq_true _
    have p2 : (isI64 z1 == isI64 z1) = true := beq_self_eq_true _
    have p3 : (chkN b1 l1 == chkN b1 l1) = true := beq_self_eq_true _
    have p4 : (cmpI z1 z2 == cmpI z1 z2) = true := beq_self_eq_true _
    have p5 : ((blen z1.natAbs : Int) == (blen z1.natAbs : Int)) = true := beq_self_eq_true _
    have q0 := qSameZ 100000 10 (Nat.le_refl _) r hr gg
    have q1 := callQ_trees (f := 27) (vs := [encA b1 .l l1]) rfl (check_eq 100000 11 b1 .l l1 h1)
    have q2 := callQ_trees (f := 11) (vs := [encA b1 g1 l1]) rfl (rcheck_eq 100000 11 b1 g1 l1 h1)
    have q3 := qNcmp 100000 8 (Nat.le_refl _) m1 m2
    have q4 := callQ_trees (f := 20) (vs := [encA b1 g1 l1, encA b2 g2 l2]) rfl (rncmp_eq 100000 8 (Nat.le_refl _) n1 n2)
    have q5 := qOf64 100000 9 (Nat.le_refl _) v hv hv'
    have q6 := callQ_trees (f := 21) (vs := [.int .i64 v]) rfl (rof64_eq 100000 9 (Nat.le_refl _) v hv hv')
    have q7 := qSameZ 100000 10 (Nat.le_refl _) v (by omega) .l
    have q8 := qNeg 100000 9 (Nat.le_refl _) m1
    have q9 := qRneg 100000 9 (Nat.le_refl _) n1
    have q10 := qSameZ 100000 10 (Nat.le_refl _) (-z1) (by omega) .l
    have q11 := callQ_trees (f := 29) (vs := [encA b1 .l l1]) rfl (bits_eq 100000 9 (Nat.le_refl _) m1)
    have q12 := callQ_trees (f := 30) (vs := [encA b1 g1 l1]) rfl (rbits_eq 100000 9 (Nat.le_refl _) n1)
    have q13 := callQ_trees (f := 16) (vs := [encA b1 .l l1, encA b1 g1 l1]) rfl (sameN_eq 100000 10 b1 .l g1 l1 (by omega) (by omega))
    clear w cf k1 k2 cN cF i1 i2 hF
    refine forgetS (fun s => (binA Tryd.prog .eql 4 (.bool ok) (.bool ok)).map (·, s)) (fun env s => env 3 = .int .i64 v ∧ env 5 = .ptr 5 1 0 ∧ env 6 = .ptr 6 1 0 ∧ env 9 = .ptr 9 1 0 ∧ env 10 = .ptr 10 1 0 ∧ env 11 = .ptr 11 1 0 ∧ env 13 = .ptr 13 1 0 ∧ env 12 = .bool ok ∧ env 14 = .bool ok ∧ env 15 = .int .i64 (if isI64 z1 = true then z1 else 0) ∧ env 17 = .int .i64 (if isI64 z1 = true then z1 else 0) ∧ env 16 = .bool (isI64 z1) ∧ env 18 = .bool (isI64 z1) ∧ s 5 = ⟨1, .buf [.bool b1, encL g1 l1]⟩ ∧ s 6 = ⟨1, .buf [.bool b2, encL g2 l2]⟩ ∧ s 9 = ⟨1, .buf [.bool b1, encL .l l1]⟩ ∧ s 10 = ⟨1, .buf [.bool b2, encL .l l2]⟩ ∧ s 11 = ⟨1, .buf [.bool (decide (r < 0)), encR r.natAbs]⟩ ∧ s 13 = ⟨1, .buf [.bool (decide (r < 0)), encL gg (digs r.natAbs)]⟩) ⟨by simp only [zfa, ↓reduceIte, Nat.reduceEqDiff, env0, List.getElem?_cons_zero, List.getElem?_cons_succ], by simp only [zfa, ↓reduceIte, Nat.reduceEqDiff], by simp only [zfa, ↓reduceIte, Nat.reduceEqDiff], by simp only [zfa, ↓reduceIte, Nat.reduceEqDiff], by simp only [zfa, ↓reduceIte, Nat.reduceEqDiff], by simp only [zfa, ↓reduceIte, Nat.reduceEqDiff], by simp only [zfa, ↓reduceIte, Nat.reduceEqDiff], by simp only [zfa, ↓reduceIte, Nat.reduceEqDiff], by simp only [zfa, ↓reduceIte, Nat.reduceEqDiff], by simp only [zfa, ↓reduceIte, Nat.reduceEqDiff], by simp only [zfa, ↓reduceIte, Nat.reduceEqDiff], by simp only [zfa, ↓reduceIte, Nat.reduceEqDiff], by simp only [zfa, ↓reduceIte, Nat.reduceEqDiff], by simp only [zfa, ↓reduceIte, Nat.reduceEqDiff], by simp only [zfa, ↓reduceIte, Nat.reduceEqDiff], by simp only [zfa, ↓reduceIte, Nat.reduceEqDiff], by simp only [zfa, ↓reduceIte, Nat.reduceEqDiff], by simp only [zfa, ↓reduceIte, Nat.reduceEqDiff], by simp only [zfa, ↓reduceIte, Nat.reduceEqDiff]⟩ ?_
    intro env s ⟨e3, e5, e6, e9, e10, e11, e13, e12, e14, e15, e17, e16, e18, j5, j6, j9, j10, j11, j13⟩
    simp only [zaa, zab, zac, zad, zae, zaf, zag, zah, zai, zaj, zak, zal, zam, zan, zao, zap, zaq, zar, zas, zat, zau, zav, zaw, zax, zay, zaz, zba, zbb, zbc, zbd, zbe, zbf, zbg, zbh, zbi, zbj, Nat.reduceBEq, Bool.or_self, Bool.or_false, Bool.or_true, Bool.and_true, Bool.and_false, Bool.true_and, Bool.false_and, Option.isNone_none, Option.isNone_some, Option.isSome_some, Option.isSome_none, zbk, zbl, zbm, zbn, zbo, zbp, zbq, zbr, zbs, zbt, zbu, zbv, zbw, zbx, zby, zbz, zca, zcb, zcc, zcd, zce, zcf, zcg, zch, zci, zcj, zck, zcl, zcm, zcn, zco, zcp, zcq, zcr, zcs, zct, zcu, zcv, zcw, zcx, zcy, zcz, zda, zdb, zdc, zdd, zde, zdf, Option.getD_some, Option.getD_none, zet, zeu, zev, zew, zex, zey, zez, zfa, Option.map_some, Option.map_none, Option.bind_some, List.map_cons, List.map_nil, List.cons_append, List.nil_append, ↓reduceIte, Nat.reduceEqDiff, Nat.reduceAdd, decide_true, decide_false, Bool.true_eq_false, Bool.false_eq_true, env0, List.getElem?_cons_zero, List.getElem?_cons_succ, zdg, zdh, zdi, zdj, zdk, zdl, zdm, zdn, ia22, ld31, zdo, zdp, zdq, zdr, zds, zdt, zdu, zdv, zdw, zdx, zdy, zdz, zea, zeb, zec, fa_0, fa_1, zed, bd_0, bd_2, zee, fd_1, zef, Nat.zero_add, encZ_fold, eb, e3, e5, e6, e9, e10, e11, e13, e12, e14, e15, e17, e16, e18, j5, j6, j9, j10, j11, j13, p0, p1, p2, p3, p4, p5, q0, q1, q2, q3, q4, q5, q6, q7, q8, q9, q10, q11, q12, q13, wq]
    exact finish_b _ _ _ _ _ _ _ (by simp only [zfa, ↓reduceIte]) rfl
  · rw [Bool.not_eq_true] at hf
    rw [hf] at cf
    simp only [zaa, zab, zac, zad, zae, zaf, zag, zah, zai, zaj, zak, zal, zam, zan, zao, zap, zaq, zar, zas, zat, zau, zav, zaw, zax, zay, zaz, zba, zbb, zbc, zbd, zbe, zbf, zbg, zbh, zbi, zbj, Nat.reduceBEq, Bool.or_self, Bool.or_false, Bool.or_true, Bool.and_true, Bool.and_false, Bool.true_and, Bool.false_and, Option.isNone_none, Option.isNone_some, Option.isSome_some, Option.isSome_none, zbk, zbl, zbm, zbn, zbo, zbp, zbq, zbr, zbs, zbt, zbu, zbv, zbw, zbx, zby, zbz, zca, zcb, zcc, zcd, zce, zcf, zcg, zch, zci, zcj, zck, zcl, zcm, zcn, zco, zcp, zcq, zcr, zcs, zct, zcu, zcv, zcw, zcx, zcy, zcz, zda, zdb, zdc, zdd, zde, zdf, Option.getD_some, Option.getD_none, zet, zeu, zev, zew, zex, zey, zez, zfa, Option.map_some, Option.map_none, Option.bind_some, List.map_cons, List.map_nil, List.cons_append, List.nil_append, ↓reduceIte, Nat.reduceEqDiff, Nat.reduceAdd, decide_true, decide_false, Bool.true_eq_false, Bool.false_eq_true, env0, List.getElem?_cons_zero, List.getElem?_cons_succ, zdg, zdh, zdi, zdj, zdk, zdl, zdm, zdn, ia22, ld31, zdo, zdp, zdq, zdr, zds, zdt, zdu, zdv, zdw, zdx, zdy, zdz, zea, zeb, zec, fa_0, fa_1, zed, bd_0, bd_2, zee, fd_1, zef, Nat.zero_add, st0_4', env0, cf, unA_not', Bool.not_false, w]
    exact finish_b _ _ _ _ _ _ _ (by simp only [zfa, ↓reduceIte]) rfl
end Go.Ab
