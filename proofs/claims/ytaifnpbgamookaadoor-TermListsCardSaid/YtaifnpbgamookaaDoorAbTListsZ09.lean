/- Several texts put together: AbtT19, AbtR1, AbtR2, AbtR3, AbtR4, AbtR5, AbtR6, AbtR7, AbtR8, AbtR9. Conditions: as each part says. -/
import Derived.Test.YtaifnpbgamookaaDoorAbTListsZ08
import Derived.Test.YtaifnpbgamookaaDoorAbTListsZ05
import Derived.Test.YtaifnpbgamookaaDoorAbTListsZ04
/- The statement TermOrders. Conditions: limbs in range; texts in range. -/
namespace Go.Ab
open Go.Proofs
set_option maxRecDepth 100000
set_option linter.unusedSimpArgs false

mutual
theorem ht_nod : ∀ t : T, htT t ≤ nodT t
  | .mk _ _ _ _ _ _ _ ks => by have := htK_nod ks; simp only [htT, nodT]; omega
theorem htK_nod : ∀ ks : List T, htK ks ≤ nodK ks
  | [] => Nat.le_refl _
  | t :: r => by have := ht_nod t; have := htK_nod r; simp only [htK, nodK]; omega
end
mutual
theorem good_few : ∀ t : T, goodT t → fewT 100000 t
  | .mk k b lg l s m kg ks, h => by
    have ho := good_own h
    have h1 := ho.2.1
    simp only [ownT, Bool.and_eq_true, decide_eq_true_eq] at h1
    simp only [fewT]
    refine ⟨?_, ?_, goodK_few ks ho.2.2⟩
    · have h2 := h1.2.1.1.1
      by_cases hk : k = 1
      · rw [if_pos hk] at h2
        simp only [chkN, Bool.and_eq_true, decide_eq_true_eq] at h2
        omega
      · rw [if_neg hk] at h2
        simp only [zeroB, Bool.and_eq_true, decide_eq_true_eq] at h2
        omega
    · have h2 := h1.2.1.2
      by_cases k4 : k = 4
      · rw [if_pos k4, decide_eq_true_eq] at h2; omega
      · rw [if_neg k4] at h2
        by_cases k5 : k = 5
        · rw [if_pos k5, decide_eq_true_eq] at h2; omega
        · rw [if_neg k5, decide_eq_true_eq] at h2; omega
theorem goodK_few : ∀ ks : List T, goodK ks → fewK 100000 ks
  | [], _ => by simp only [fewK]
  | t :: r, h => by simp only [goodK] at h; simp only [fewK]; exact ⟨good_few t h.1, goodK_few r h.2⟩
end
theorem or2_rng {p q : Int} (h1 : -1 ≤ p ∧ p ≤ 1) (h2 : -1 ≤ q ∧ q ≤ 1) : -1 ≤ or2 p q ∧ or2 p q ≤ 1 := by unfold or2; split <;> assumption
theorem three_rng (a b : Int) : -1 ≤ three a b ∧ three a b ≤ 1 := by have := three_is a b; omega
theorem strC_rng (a b : List UInt8) : -1 ≤ strC a b ∧ strC a b ≤ 1 := by unfold strC; split <;> (try split) <;> omega
theorem cmpL_rng : ∀ us vs : List T, (∀ x ∈ us, ∀ y ∈ vs, -1 ≤ cmpT x y ∧ cmpT x y ≤ 1) → -1 ≤ cmpL us vs ∧ cmpL us vs ≤ 1
  | [], [], _ => by simp only [cmpL]; omega
  | [], _ :: _, _ => by simp only [cmpL]; omega
  | _ :: _, [], _ => by simp only [cmpL]; omega
  | x :: r, y :: q, h => by
    simp only [cmpL]
    exact or2_rng (h x (by simp) y (by simp)) (cmpL_rng r q fun x hx y hy => h x (by simp [hx]) y (by simp [hy]))
theorem cmp_rng : ∀ (N : Nat) (a b : T), nodT a ≤ N → goodT a → goodT b → -1 ≤ cmpT a b ∧ cmpT a b ≤ 1
  | 0, a, b, hN, _, _ => by have := nod_pos a; omega
  | N + 1, a, b, hN, ha, hb => by
    by_cases h4 : kindT a = 4 ∧ kindT b = 4
    · obtain ⟨x, y, ⟨n1, lg, l, s, i1, kg, rfl⟩, gx, gy, hn⟩ := good_4 ha h4.1
      obtain ⟨x', y', ⟨n2, lg', l', s', i2, kg', rfl⟩, gx', gy', _⟩ := good_4 hb h4.2
      rw [cmp_4]
      have := nod_pos x
      have := nod_pos y
      exact or2_rng (cmp_rng N x x' (by omega) gx gx') (cmp_rng N y y' (by omega) gy gy')
    · rw [cmp_k a b h4]
      refine or2_rng (three_rng _ _) ?_
      unfold restC
      split
      · exact three_rng _ _
      split
      · exact strC_rng _ _
      split
      · refine or2_rng (three_rng _ _) (cmpL_rng _ _ fun x hx y hy => ?_)
        have h1 := goodK_mem _ (good_kidsT ha) x hx
        have h2 := goodK_mem _ (good_kidsT hb) y hy
        have := nod_kids a
        exact cmp_rng N x y (by omega) h1.1 h2.1
      · omega
theorem qCmp (R : Nat) (hR : 100000 ≤ R) (D : Nat) (hD : 6006 ≤ D) (a b : T) (ha : goodT a) (hb : goodT b) (hn : nodT a ≤ 2000) : evalFn Tryd.prog cfg0 R D 22 [.tree (encT a), .tree (encT b)] = some (.tree (.int .i64 (cmpT a b)), [[], []]) :=
  evalFn_mono hR 6006 D hD _ _ _ (tcmp_eq 2000 6006 a b (by have := ht_nod a; omega) (by omega) (by omega) ha hb)
theorem qSame (R : Nat) (hR : 100000 ≤ R) (D : Nat) (hD : 6006 ≤ D) (a b : T) (ha : goodT a) (hn : nodT a ≤ 2000) : evalFn Tryd.prog cfg0 R D 20 [.tree (encT a), .tree (encT b)] = some (.tree (.bool (sameT a b)), [[], []]) :=
  evalFn_mono hR 6000 D (by omega) _ _ _ (tsame_eq 2000 6000 a b (by have := ht_nod a; omega) (by omega) (good_few a ha))
set_option maxHeartbeats 32000000 in
theorem orders_T (R : Nat) (hR : 100000 ≤ R) (hR2 : R ≤ 9223372036854775808) (a b c : T) (ha : bigT R a) (hb : bigT R b) (hc : bigT R c) :
    evalFn Tryd.prog cfg0 R 6100 7 [.tree (encT a), .tree (encT b), .tree (encT c)] = some (.tree (.bool true), [[], [], []]) := by
  rw [evalFn_go _ Tryd.func7 (by unfold Tryd.f7; rfl) (by unfold Tryd.f7; decide) (Nat.le_of_ble_eq_true (by unfold Tryd.f7; rfl)) (by kernel_rfl)]
  have wa := fun D st => callA_trees (cfg := cfg0) (d := D) (s := st) (f := 12) (vs := []) rfl (evalFn_mono hR 14 6099 (by decide) _ _ _ awakeT_eq)
  have k1 := fun D st => callA_trees (cfg := cfg0) (d := D) (s := st) (f := 23) (vs := [encT a]) rfl (rCheck_eq R (by omega) hR2 4094 a ha)
  have k2 := fun D st => callA_trees (cfg := cfg0) (d := D) (s := st) (f := 23) (vs := [encT b]) rfl (rCheck_eq R (by omega) hR2 4094 b hb)
  have k3 := fun D st => callA_trees (cfg := cfg0) (d := D) (s := st) (f := 23) (vs := [encT c]) rfl (rCheck_eq R (by omega) hR2 4094 c hc)
  simp only [encT] at k1 k2 k3
  by_cases ga : rwT a 1 0 ≥ 0
  rotate_left
  · rw [decide_eq_false ga] at k1
    simp only [zaa, zab, zac, zad, zae, zaf, zag, zah, zai, zaj, zak, zal, zam, zan, zao, zap, zaq, zar, zas, zat, zau, zav, zaw, zax, zay, zaz, zba, zbb, zbc, zbd, zbe, zbf, zbg, zbh, zbi, zbj, Nat.reduceBEq, Bool.or_self, Bool.or_false, Bool.or_true, Bool.and_true, Bool.and_false, Bool.true_and, Bool.false_and, Option.isNone_none, Option.isNone_some, Option.isSome_some, Option.isSome_none, zbk, zbl, zbm, zbn, zbo, zbp, zbq, zbr, zbs, zbt, zbu, zbv, zbw, zbx, zby, zbz, zca, zcb, zcc, zcd, zce, zcf, zcg, zch, zci, zcj, zck, zcl, zcm, zcn, zco, zcp, zcq, zcr, zcs, zct, zcu, zcv, zcw, zcx, zcy, zcz, zda, zdb, zdc, zdd, zde, zdf, Option.getD_some, Option.getD_none, zet, zeu, zev, zew, zex, zey, zez, zfa, Option.map_some, Option.map_none, Option.bind_some, List.map_cons, List.map_nil, List.cons_append, List.nil_append, ↓reduceIte, Nat.reduceEqDiff, Nat.reduceAdd, decide_true, decide_false, Bool.true_eq_false, Bool.false_eq_true, env0, List.getElem?_cons_zero, List.getElem?_cons_succ, zdg, zdh, zdi, zdj, zdk, zdl, zdm, zdn, ia22, ld31, zdo, zdp, zdq, zdr, zds, zdt, zdu, zdv, zdw, zdx, zdy, zdz, zea, zeb, zec, fa_0, fa_1, zed, bd_0, bd_2, zee, fd_1, zef, Nat.zero_add, encT, ldT_u, k1, unA_not', Bool.not_false, wa]
    exact finish_b _ _ _ _ _ _ _ (by first | (simp only [zfa, ↓reduceIte, Nat.reduceEqDiff]; done) | (simp only [zfa, ↓reduceIte, Nat.reduceEqDiff]; rfl)) rfl
  rw [decide_eq_true ga] at k1
  by_cases gb : rwT b 1 0 ≥ 0
  rotate_left
  · rw [decide_eq_false gb] at k2
    simp only [zaa, zab, zac, zad, zae, zaf, zag, zah, zai, zaj, zak, zal, zam, zan, zao, zap, zaq, zar, zas, zat, zau, zav, zaw, zax, zay, zaz, zba, zbb, zbc, zbd, zbe, zbf, zbg, zbh, zbi, zbj, Nat.reduceBEq, Bool.or_self, Bool.or_false, Bool.or_true, Bool.and_true, Bool.and_false, Bool.true_and, Bool.false_and, Option.isNone_none, Option.isNone_some, Option.isSome_some, Option.isSome_none, zbk, zbl, zbm, zbn, zbo, zbp, zbq, zbr, zbs, zbt, zbu, zbv, zbw, zbx, zby, zbz, zca, zcb, zcc, zcd, zce, zcf, zcg, zch, zci, zcj, zck, zcl, zcm, zcn, zco, zcp, zcq, zcr, zcs, zct, zcu, zcv, zcw, zcx, zcy, zcz, zda, zdb, zdc, zdd, zde, zdf, Option.getD_some, Option.getD_none, zet, zeu, zev, zew, zex, zey, zez, zfa, Option.map_some, Option.map_none, Option.bind_some, List.map_cons, List.map_nil, List.cons_append, List.nil_append, ↓reduceIte, Nat.reduceEqDiff, Nat.reduceAdd, decide_true, decide_false, Bool.true_eq_false, Bool.false_eq_true, env0, List.getElem?_cons_zero, List.getElem?_cons_succ, zdg, zdh, zdi, zdj, zdk, zdl, zdm, zdn, ia22, ld31, zdo, zdp, zdq, zdr, zds, zdt, zdu, zdv, zdw, zdx, zdy, zdz, zea, zeb, zec, fa_0, fa_1, zed, bd_0, bd_2, zee, fd_1, zef, Nat.zero_add, encT, ldT_u, k1, k2, unA_not', Bool.not_false, Bool.not_true, wa]
    exact finish_b _ _ _ _ _ _ _ (by first | (simp only [zfa, ↓reduceIte, Nat.reduceEqDiff]; done) | (simp only [zfa, ↓reduceIte, Nat.reduceEqDiff]; rfl)) rfl
  rw [decide_eq_true gb] at k2
  by_cases gc : rwT c 1 0 ≥ 0
  rotate_left
  · rw [decide_eq_false gc] at k3
    simp only [zaa, zab, zac, zad, zae, zaf, zag, zah, zai, zaj, zak, zal, zam, zan, zao, zap, zaq, zar, zas, zat, zau, zav, zaw, zax, zay, zaz, zba, zbb, zbc, zbd, zbe, zbf, zbg, zbh, zbi, zbj, Nat.reduceBEq, Bool.or_self, Bool.or_false, Bool.or_true, Bool.and_true, Bool.and_false, Bool.true_and, Bool.false_and, Option.isNone_none, Option.isNone_some, Option.isSome_some, Option.isSome_none, zbk, zbl, zbm, zbn, zbo, zbp, zbq, zbr, zbs, zbt, zbu, zbv, zbw, zbx, zby, zbz, zca, zcb, zcc, zcd, zce, zcf, zcg, zch, zci, zcj, zck, zcl, zcm, zcn, zco, zcp, zcq, zcr, zcs, zct, zcu, zcv, zcw, zcx, zcy, zcz, zda, zdb, zdc, zdd, zde, zdf, Option.getD_some, Option.getD_none, zet, zeu, zev, zew, zex, zey, zez, zfa, Option.map_some, Option.map_none, Option.bind_some, List.map_cons, List.map_nil, List.cons_append, List.nil_append, ↓reduceIte, Nat.reduceEqDiff, Nat.reduceAdd, decide_true, decide_false, Bool.true_eq_false, Bool.false_eq_true, env0, List.getElem?_cons_zero, List.getElem?_cons_succ, zdg, zdh, zdi, zdj, zdk, zdl, zdm, zdn, ia22, ld31, zdo, zdp, zdq, zdr, zds, zdt, zdu, zdv, zdw, zdx, zdy, zdz, zea, zeb, zec, fa_0, fa_1, zed, bd_0, bd_2, zee, fd_1, zef, Nat.zero_add, encT, ldT_u, k1, k2, k3, unA_not', Bool.not_false, Bool.not_true, wa]
    exact finish_b _ _ _ _ _ _ _ (by first | (simp only [zfa, ↓reduceIte, Nat.reduceEqDiff]; done) | (simp only [zfa, ↓reduceIte, Nat.reduceEqDiff]; rfl)) rfl
  rw [decide_eq_true gc] at k3
  have wa' := rwT_good R a 1 0 ha (by decide) ga
  have wb' := rwT_good R b 1 0 hb (by decide) gb
  have wc' := rwT_good R c 1 0 hc (by decide) gc
  have na : nodT a ≤ 2000 := by omega
  have nb : nodT b ≤ 2000 := by omega
  have c1 := callQ_trees (f := 22) (vs := [encT a, encT b]) rfl (qCmp R hR 6099 (by decide) a b wa'.1 wb'.1 na)
  have c2 := callQ_trees (f := 22) (vs := [encT b, encT c]) rfl (qCmp R hR 6099 (by decide) b c wb'.1 wc'.1 nb)
  have c3 := callQ_trees (f := 22) (vs := [encT a, encT c]) rfl (qCmp R hR 6099 (by decide) a c wa'.1 wc'.1 na)
  have c4 := fun D st => callA_trees (cfg := cfg0) (d := D) (s := st) (f := 22) (vs := [encT b, encT a]) rfl (qCmp R hR 6099 (by decide) b a wb'.1 wa'.1 nb)
  have c5 := fun D st => callA_trees (cfg := cfg0) (d := D) (s := st) (f := 22) (vs := [encT a, encT a]) rfl (qCmp R hR 6099 (by decide) a a wa'.1 wa'.1 na)
  have c6 := fun D st => callA_trees (cfg := cfg0) (d := D) (s := st) (f := 20) (vs := [encT a, encT b]) rfl (qSame R hR 6099 (by decide) a b wa'.1 na)
  simp only [encT] at c1 c2 c3 c4 c5 c6
  have eb := bool_eql 4 tk4
  have m1 := cmp_neg 2000 a b na wa'.1 wb'.1
  have m2 := cmp_Tr 2000 a b c na wa'.1 wb'.1 wc'.1
  have m2' : Tr (cmpT c b) (cmpT b a) (cmpT c a) := cmp_Tr 2000 c b a (by omega) wc'.1 wb'.1 wa'.1
  have m3 := cmp_same 2000 a b na wa'.1 wb'.1
  have m4 := cmp_neg 2000 a a na wa'.1 wa'.1
  have m5 := cmp_neg 2000 b c nb wb'.1 wc'.1
  have m6 := cmp_neg 2000 a c na wa'.1 wc'.1
  have r1 := cmp_rng 2000 a b na wa'.1 wb'.1
  rw [m1, m5, m6] at m2'
  rw [m1] at c4
  rw [show cmpT a a = 0 by omega] at c5
  generalize cmpT a b = x at *
  generalize cmpT b c = y at *
  generalize cmpT a c = z at *
  have p0 : (-x == -x) = true := beq_self_eq_true _
  have p1 : ((x == 0) == sameT a b) = true := by
    cases hs : sameT a b with
    | true => rw [m3.mpr hs]; rfl
    | false =>
      have : x ≠ 0 := fun e => by rw [m3.mp e] at hs; cases hs
      rw [beq_eq_false_iff_ne.mpr this]; rfl
  have p2 : ((0 : Int) == 0) = true := rfl
  have un : unA .neg (.int .i64 x) = some (.int .i64 (-x)) := by
    have hx : x = -1 ∨ x = 0 ∨ x = 1 := by omega
    rcases hx with h | h | h <;> (rw [h]; rfl)
  unfold Tr at m2 m2'
  rcases Int.lt_trichotomy x 0 with hx | hx | hx
  · have q1 : ¬ x > 0 := by omega
    have q2 : x < 0 := hx
    by_cases hy : y > 0
    · simp only [zaa, zab, zac, zad, zae, zaf, zag, zah, zai, zaj, zak, zal, zam, zan, zao, zap, zaq, zar, zas, zat, zau, zav, zaw, zax, zay, zaz, zba, zbb, zbc, zbd, zbe, zbf, zbg, zbh, zbi, zbj, Nat.reduceBEq, Bool.or_self, Bool.or_false, Bool.or_true, Bool.and_true, Bool.and_false, Bool.true_and, Bool.false_and, Option.isNone_none, Option.isNone_some, Option.isSome_some, Option.isSome_none, zbk, zbl, zbm, zbn, zbo, zbp, zbq, zbr, zbs, zbt, zbu, zbv, zbw, zbx, zby, zbz, zca, zcb, zcc, zcd, zce, zcf, zcg, zch, zci, zcj, zck, zcl, zcm, zcn, zco, zcp, zcq, zcr, zcs, zct, zcu, zcv, zcw, zcx, zcy, zcz, zda, zdb, zdc, zdd, zde, zdf, Option.getD_some, Option.getD_none, zet, zeu, zev, zew, zex, zey, zez, zfa, Option.map_some, Option.map_none, Option.bind_some, List.map_cons, List.map_nil, List.cons_append, List.nil_append, ↓reduceIte, Nat.reduceEqDiff, Nat.reduceAdd, decide_true, decide_false, Bool.true_eq_false, Bool.false_eq_true, env0, List.getElem?_cons_zero, List.getElem?_cons_succ, zdg, zdh, zdi, zdj, zdk, zdl, zdm, zdn, ia22, ld31, zdo, zdp, zdq, zdr, zds, zdt, zdu, zdv, zdw, zdx, zdy, zdz, zea, zeb, zec, fa_0, fa_1, zed, bd_0, bd_2, zee, fd_1, zef, Nat.zero_add, encT, ldT_u, k1, k2, k3, c1, c2, c3, c4, c5, c6, eb, unA_not', Bool.not_false, Bool.not_true, un, i_eqlV, p0, p1, p2, q1, q2, hy, wa]
      exact finish_b _ _ _ _ _ _ _ (by first | (simp only [zfa, ↓reduceIte, Nat.reduceEqDiff]; done) | (simp only [zfa, ↓reduceIte, Nat.reduceEqDiff]; rfl)) rfl
    · have q3 : z ≤ 0 := by omega
      simp only [zaa, zab, zac, zad, zae, zaf, zag, zah, zai, zaj, zak, zal, zam, zan, zao, zap, zaq, zar, zas, zat, zau, zav, zaw, zax, zay, zaz, zba, zbb, zbc, zbd, zbe, zbf, zbg, zbh, zbi, zbj, Nat.reduceBEq, Bool.or_self, Bool.or_false, Bool.or_true, Bool.and_true, Bool.and_false, Bool.true_and, Bool.false_and, Option.isNone_none, Option.isNone_some, Option.isSome_some, Option.isSome_none, zbk, zbl, zbm, zbn, zbo, zbp, zbq, zbr, zbs, zbt, zbu, zbv, zbw, zbx, zby, zbz, zca, zcb, zcc, zcd, zce, zcf, zcg, zch, zci, zcj, zck, zcl, zcm, zcn, zco, zcp, zcq, zcr, zcs, zct, zcu, zcv, zcw, zcx, zcy, zcz, zda, zdb, zdc, zdd, zde, zdf, Option.getD_some, Option.getD_none, zet, zeu, zev, zew, zex, zey, zez, zfa, Option.map_some, Option.map_none, Option.bind_some, List.map_cons, List.map_nil, List.cons_append, List.nil_append, ↓reduceIte, Nat.reduceEqDiff, Nat.reduceAdd, decide_true, decide_false, Bool.true_eq_false, Bool.false_eq_true, env0, List.getElem?_cons_zero, List.getElem?_cons_succ, zdg, zdh, zdi, zdj, zdk, zdl, zdm, zdn, ia22, ld31, zdo, zdp, zdq, zdr, zds, zdt, zdu, zdv, zdw, zdx, zdy, zdz, zea, zeb, zec, fa_0, fa_1, zed, bd_0, bd_2, zee, fd_1, zef, Nat.zero_add, encT, ldT_u, k1, k2, k3, c1, c2, c3, c4, c5, c6, eb, unA_not', Bool.not_false, Bool.not_true, un, i_eqlV, p0, p1, p2, q1, q2, q3, hy, wa]
      exact finish_b _ _ _ _ _ _ _ (by first | (simp only [zfa, ↓reduceIte, Nat.reduceEqDiff]; done) | (simp only [zfa, ↓reduceIte, Nat.reduceEqDiff]; rfl)) rfl
  · have q1 : ¬ x > 0 := by omega
    have q2 : ¬ x < 0 := by omega
    by_cases hy : y > 0
    · have q3 : ¬ y < 0 := by omega
      have q4 : z ≥ 0 := by omega
      simp only [zaa, zab, zac, zad, zae, zaf, zag, zah, zai, zaj, zak, zal, zam, zan, zao, zap, zaq, zar, zas, zat, zau, zav, zaw, zax, zay, zaz, zba, zbb, zbc, zbd, zbe, zbf, zbg, zbh, zbi, zbj, Nat.reduceBEq, Bool.or_self, Bool.or_false, Bool.or_true, Bool.and_true, Bool.and_false, Bool.true_and, Bool.false_and, Option.isNone_none, Option.isNone_some, Option.isSome_some, Option.isSome_none, zbk, zbl, zbm, zbn, zbo, zbp, zbq, zbr, zbs, zbt, zbu, zbv, zbw, zbx, zby, zbz, zca, zcb, zcc, zcd, zce, zcf, zcg, zch, zci, zcj, zck, zcl, zcm, zcn, zco, zcp, zcq, zcr, zcs, zct, zcu, zcv, zcw, zcx, zcy, zcz, zda, zdb, zdc, zdd, zde, zdf, Option.getD_some, Option.getD_none, zet, zeu, zev, zew, zex, zey, zez, zfa, Option.map_some, Option.map_none, Option.bind_some, List.map_cons, List.map_nil, List.cons_append, List.nil_append, ↓reduceIte, Nat.reduceEqDiff, Nat.reduceAdd, decide_true, decide_false, Bool.true_eq_false, Bool.false_eq_true, env0, List.getElem?_cons_zero, List.getElem?_cons_succ, zdg, zdh, zdi, zdj, zdk, zdl, zdm, zdn, ia22, ld31, zdo, zdp, zdq, zdr, zds, zdt, zdu, zdv, zdw, zdx, zdy, zdz, zea, zeb, zec, fa_0, fa_1, zed, bd_0, bd_2, zee, fd_1, zef, Nat.zero_add, encT, ldT_u, k1, k2, k3, c1, c2, c3, c4, c5, c6, eb, unA_not', Bool.not_false, Bool.not_true, un, i_eqlV, p0, p1, p2, q1, q2, q3, q4, hy, wa]
      exact finish_b _ _ _ _ _ _ _ (by first | (simp only [zfa, ↓reduceIte, Nat.reduceEqDiff]; done) | (simp only [zfa, ↓reduceIte, Nat.reduceEqDiff]; rfl)) rfl
    · have q3 : z ≤ 0 := by omega
      by_cases hy2 : y < 0
      · simp only [zaa, zab, zac, zad, zae, zaf, zag, zah, zai, zaj, zak, zal, zam, zan, zao, zap, zaq, zar, zas, zat, zau, zav, zaw, zax, zay, zaz, zba, zbb, zbc, zbd, zbe, zbf, zbg, zbh, zbi, zbj, Nat.reduceBEq, Bool.or_self, Bool.or_false, Bool.or_true, Bool.and_true, Bool.and_false, Bool.true_and, Bool.false_and, Option.isNone_none, Option.isNone_some, Option.isSome_some, Option.isSome_none, zbk, zbl, zbm, zbn, zbo, zbp, zbq, zbr, zbs, zbt, zbu, zbv, zbw, zbx, zby, zbz, zca, zcb, zcc, zcd, zce, zcf, zcg, zch, zci, zcj, zck, zcl, zcm, zcn, zco, zcp, zcq, zcr, zcs, zct, zcu, zcv, zcw, zcx, zcy, zcz, zda, zdb, zdc, zdd, zde, zdf, Option.getD_some, Option.getD_none, zet, zeu, zev, zew, zex, zey, zez, zfa, Option.map_some, Option.map_none, Option.bind_some, List.map_cons, List.map_nil, List.cons_append, List.nil_append, ↓reduceIte, Nat.reduceEqDiff, Nat.reduceAdd, decide_true, decide_false, Bool.true_eq_false, Bool.false_eq_true, env0, List.getElem?_cons_zero, List.getElem?_cons_succ, zdg, zdh, zdi, zdj, zdk, zdl, zdm, zdn, ia22, ld31, zdo, zdp, zdq, zdr, zds, zdt, zdu, zdv, zdw, zdx, zdy, zdz, zea, zeb, zec, fa_0, fa_1, zed, bd_0, bd_2, zee, fd_1, zef, Nat.zero_add, encT, ldT_u, k1, k2, k3, c1, c2, c3, c4, c5, c6, eb, unA_not', Bool.not_false, Bool.not_true, un, i_eqlV, p0, p1, p2, q1, q2, q3, hy, hy2, wa]
        exact finish_b _ _ _ _ _ _ _ (by first | (simp only [zfa, ↓reduceIte, Nat.reduceEqDiff]; done) | (simp only [zfa, ↓reduceIte, Nat.reduceEqDiff]; rfl)) rfl
      · have q4 : z ≥ 0 := by omega
        simp only [zaa, zab, zac, zad, zae, zaf, zag, zah, zai, zaj, zak, zal, zam, zan, zao, zap, zaq, zar, zas, zat, zau, zav, zaw, zax, zay, zaz, zba, zbb, zbc, zbd, zbe, zbf, zbg, zbh, zbi, zbj, Nat.reduceBEq, Bool.or_self, Bool.or_false, Bool.or_true, Bool.and_true, Bool.and_false, Bool.true_and, Bool.false_and, Option.isNone_none, Option.isNone_some, Option.isSome_some, Option.isSome_none, zbk, zbl, zbm, zbn, zbo, zbp, zbq, zbr, zbs, zbt, zbu, zbv, zbw, zbx, zby, zbz, zca, zcb, zcc, zcd, zce, zcf, zcg, zch, zci, zcj, zck, zcl, zcm, zcn, zco, zcp, zcq, zcr, zcs, zct, zcu, zcv, zcw, zcx, zcy, zcz, zda, zdb, zdc, zdd, zde, zdf, Option.getD_some, Option.getD_none, zet, zeu, zev, zew, zex, zey, zez, zfa, Option.map_some, Option.map_none, Option.bind_some, List.map_cons, List.map_nil, List.cons_append, List.nil_append, ↓reduceIte, Nat.reduceEqDiff, Nat.reduceAdd, decide_true, decide_false, Bool.true_eq_false, Bool.false_eq_true, env0, List.getElem?_cons_zero, List.getElem?_cons_succ, zdg, zdh, zdi, zdj, zdk, zdl, zdm, zdn, ia22, ld31, zdo, zdp, zdq, zdr, zds, zdt, zdu, zdv, zdw, zdx, zdy, zdz, zea, zeb, zec, fa_0, fa_1, zed, bd_0, bd_2, zee, fd_1, zef, Nat.zero_add, encT, ldT_u, k1, k2, k3, c1, c2, c3, c4, c5, c6, eb, unA_not', Bool.not_false, Bool.not_true, un, i_eqlV, p0, p1, p2, q1, q2, q3, q4, hy, hy2, wa]
        exact finish_b _ _ _ _ _ _ _ (by first | (simp only [zfa, ↓reduceIte, Nat.reduceEqDiff]; done) | (simp only [zfa, ↓reduceIte, Nat.reduceEqDiff]; rfl)) rfl
  · have q1 : x > 0 := hx
    have q2 : ¬ x < 0 := by omega
    by_cases hy2 : y < 0
    · simp only [zaa, zab, zac, zad, zae, zaf, zag, zah, zai, zaj, zak, zal, zam, zan, zao, zap, zaq, zar, zas, zat, zau, zav, zaw, zax, zay, zaz, zba, zbb, zbc, zbd, zbe, zbf, zbg, zbh, zbi, zbj, Nat.reduceBEq, Bool.or_self, Bool.or_false, Bool.or_true, Bool.and_true, Bool.and_false, Bool.true_and, Bool.false_and, Option.isNone_none, Option.isNone_some, Option.isSome_some, Option.isSome_none, zbk, zbl, zbm, zbn, zbo, zbp, zbq, zbr, zbs, zbt, zbu, zbv, zbw, zbx, zby, zbz, zca, zcb, zcc, zcd, zce, zcf, zcg, zch, zci, zcj, zck, zcl, zcm, zcn, zco, zcp, zcq, zcr, zcs, zct, zcu, zcv, zcw, zcx, zcy, zcz, zda, zdb, zdc, zdd, zde, zdf, Option.getD_some, Option.getD_none, zet, zeu, zev, zew, zex, zey, zez, zfa, Option.map_some, Option.map_none, Option.bind_some, List.map_cons, List.map_nil, List.cons_append, List.nil_append, ↓reduceIte, Nat.reduceEqDiff, Nat.reduceAdd, decide_true, decide_false, Bool.true_eq_false, Bool.false_eq_true, env0, List.getElem?_cons_zero, List.getElem?_cons_succ, zdg, zdh, zdi, zdj, zdk, zdl, zdm, zdn, ia22, ld31, zdo, zdp, zdq, zdr, zds, zdt, zdu, zdv, zdw, zdx, zdy, zdz, zea, zeb, zec, fa_0, fa_1, zed, bd_0, bd_2, zee, fd_1, zef, Nat.zero_add, encT, ldT_u, k1, k2, k3, c1, c2, c3, c4, c5, c6, eb, unA_not', Bool.not_false, Bool.not_true, un, i_eqlV, p0, p1, p2, q1, q2, hy2, wa]
      exact finish_b _ _ _ _ _ _ _ (by first | (simp only [zfa, ↓reduceIte, Nat.reduceEqDiff]; done) | (simp only [zfa, ↓reduceIte, Nat.reduceEqDiff]; rfl)) rfl
    · have q4 : z ≥ 0 := by omega
      simp only [zaa, zab, zac, zad, zae, zaf, zag, zah, zai, zaj, zak, zal, zam, zan, zao, zap, zaq, zar, zas, zat, zau, zav, zaw, zax, zay, zaz, zba, zbb, zbc, zbd, zbe, zbf, zbg, zbh, zbi, zbj, Nat.reduceBEq, Bool.or_self, Bool.or_false, Bool.or_true, Bool.and_true, Bool.and_false, Bool.true_and, Bool.false_and, Option.isNone_none, Option.isNone_some, Option.isSome_some, Option.isSome_none, zbk, zbl, zbm, zbn, zbo, zbp, zbq, zbr, zbs, zbt, zbu, zbv, zbw, zbx, zby, zbz, zca, zcb, zcc, zcd, zce, zcf, zcg, zch, zci, zcj, zck, zcl, zcm, zcn, zco, zcp, zcq, zcr, zcs, zct, zcu, zcv, zcw, zcx, zcy, zcz, zda, zdb, zdc, zdd, zde, zdf, Option.getD_some, Option.getD_none, zet, zeu, zev, zew, zex, zey, zez, zfa, Option.map_some, Option.map_none, Option.bind_some, List.map_cons, List.map_nil, List.cons_append, List.nil_append, ↓reduceIte, Nat.reduceEqDiff, Nat.reduceAdd, decide_true, decide_false, Bool.true_eq_false, Bool.false_eq_true, env0, List.getElem?_cons_zero, List.getElem?_cons_succ, zdg, zdh, zdi, zdj, zdk, zdl, zdm, zdn, ia22, ld31, zdo, zdp, zdq, zdr, zds, zdt, zdu, zdv, zdw, zdx, zdy, zdz, zea, zeb, zec, fa_0, fa_1, zed, bd_0, bd_2, zee, fd_1, zef, Nat.zero_add, encT, ldT_u, k1, k2, k3, c1, c2, c3, c4, c5, c6, eb, unA_not', Bool.not_false, Bool.not_true, un, i_eqlV, p0, p1, p2, q1, q2, q4, hy2, wa]
      exact finish_b _ _ _ _ _ _ _ (by first | (simp only [zfa, ↓reduceIte, Nat.reduceEqDiff]; done) | (simp only [zfa, ↓reduceIte, Nat.reduceEqDiff]; rfl)) rfl
end Go.Ab

/- The reference's own functions on numbers: reading, normal forms, comparing. Conditions: limbs in range, not too many. -/
namespace Go.Ab
open Go.Proofs
set_option maxRecDepth 100000
set_option linter.unusedSimpArgs false

theorem rat_eq (n d : Nat) (b : Gk) (l : List Nat) (hl : ∀ x ∈ l, x < 4294967296) (i : Int) (hi : 0 ≤ i) : evalFn Tryd.prog cfg0 n (d+1) 99 [.tree (encL b l), .tree (.int .i64 i)] = some (.tree (.int .u64 ((l.getD i.toNat 0 : Nat) : Int)), [[],[]]) := by
  rw [evalFn_go _ Tryd.func99 (by unfold Tryd.f99; rfl) (by unfold Tryd.f99; decide) (Nat.le_of_ble_eq_true (by unfold Tryd.f99; rfl)) (by kernel_rfl)]
  have hx := getD_lt l hl i.toNat
  by_cases h : i < l.length
  · have h' : i.toNat < l.length := by omega
    simp only [zaa, zab, zac, zad, zae, zaf, zag, zah, zai, zaj, zak, zal, zam, zan, zao, zap, zaq, zar, zas, zat, zau, zav, zaw, zax, zay, zaz, zba, zbb, zbc, zbd, zbe, zbf, zbg, zbh, zbi, zbj, Nat.reduceBEq, Bool.or_self, Bool.or_false, Bool.or_true, Bool.and_true, Bool.and_false, Bool.true_and, Bool.false_and, Option.isNone_none, Option.isNone_some, Option.isSome_some, Option.isSome_none, zbk, zbl, zbm, zbn, zbo, zbp, zbq, zbr, zbs, zbt, zbu, zbv, zbw, zbx, zby, zbz, zca, zcb, zcc, zcd, zce, zcf, zcg, zch, zci, zcj, zck, zcl, zcm, zcn, zco, zcp, zcq, zcr, zcs, zct, zcu, zcv, zcw, zcx, zcy, zcz, zda, zdb, zdc, zdd, zde, zdf, Option.getD_some, Option.getD_none, zet, zeu, zev, zew, zex, zey, zez, zfa, Option.map_some, Option.map_none, Option.bind_some, List.map_cons, List.map_nil, List.cons_append, List.nil_append, ↓reduceIte, Nat.reduceEqDiff, Nat.reduceAdd, decide_true, decide_false, Bool.true_eq_false, Bool.false_eq_true, env0, List.getElem?_cons_zero, List.getElem?_cons_succ, zdg, zdh, zdi, zdj, zdk, zdl, zdm, zdn, ia22, ld31, zdo, zdp, h, hi, h', hx]
    rfl
  · have hx : l.getD i.toNat 0 = 0 := by
      rw [List.getD_eq_getElem?_getD, List.getElem?_eq_none (by omega)]; rfl
    simp only [zaa, zab, zac, zad, zae, zaf, zag, zah, zai, zaj, zak, zal, zam, zan, zao, zap, zaq, zar, zas, zat, zau, zav, zaw, zax, zay, zaz, zba, zbb, zbc, zbd, zbe, zbf, zbg, zbh, zbi, zbj, Nat.reduceBEq, Bool.or_self, Bool.or_false, Bool.or_true, Bool.and_true, Bool.and_false, Bool.true_and, Bool.false_and, Option.isNone_none, Option.isNone_some, Option.isSome_some, Option.isSome_none, zbk, zbl, zbm, zbn, zbo, zbp, zbq, zbr, zbs, zbt, zbu, zbv, zbw, zbx, zby, zbz, zca, zcb, zcc, zcd, zce, zcf, zcg, zch, zci, zcj, zck, zcl, zcm, zcn, zco, zcp, zcq, zcr, zcs, zct, zcu, zcv, zcw, zcx, zcy, zcz, zda, zdb, zdc, zdd, zde, zdf, Option.getD_some, Option.getD_none, zet, zeu, zev, zew, zex, zey, zez, zfa, Option.map_some, Option.map_none, Option.bind_some, List.map_cons, List.map_nil, List.cons_append, List.nil_append, ↓reduceIte, Nat.reduceEqDiff, Nat.reduceAdd, decide_true, decide_false, Bool.true_eq_false, Bool.false_eq_true, env0, List.getElem?_cons_zero, List.getElem?_cons_succ, zdg, zdh, zdi, zdj, zdk, zdl, zdm, zdn, ia22, ld31, zdo, zdp, h, hx]
    rfl

theorem rat_call (n d : Nat) (b : Gk) (l : List Nat) (hl : Limbs l) (k : Nat) (D : Nat) (s : St) : callA cfg0 (evalFn Tryd.prog cfg0 n (d+1)) D s 99 [encL b l, .int .i64 (k : Int)] = some (.int .u64 ((l.getD k 0 : Nat) : Int), s) :=
  callA_Li _ _ _ _ _ _ _ _ _ (rat_eq n d b l hl k (by omega))
/-- A part of a list, from its beginning. -/
theorem slice22h (s : St) (b : Gk) (l : List Nat) (k : Nat) (h : k ≤ l.length) : ∃ b', sliceA Tryd.prog 23 s (encL b l) none (some (.int .i64 (k : Int))) none = some (encL b' (l.take k)) := by
  have hx : (encC l).length = l.length * 1 := by rw [encC_len]; omega
  simp only [sliceA, tk22, encL, esz31, Option.isSome_none, Option.isNone_some, Bool.false_eq_true, false_and, if_false, boundA, Option.bind_some, hx, if_true, Int.toNat_natCast]
  rw [if_pos (by omega)]
  simp only [Option.bind_some, Nat.zero_mul, List.drop_zero, Nat.sub_zero, Nat.mul_one, encC_take]
  have hl : (l.take k).length = k := by rw [List.length_take]; omega
  rw [hl]
  by_cases hc : (false = true ∧ l.length = k) ∨ (none = (none : Option AV) ∧ (gr b = .tight ∨ gr b = .nil) ∧ k = l.length)
  · exact ⟨.t, by simp_all [gr]⟩
  · exact ⟨.l, by simp_all [gr]⟩
def encF (v : Nat) : AV := encL .l (digs v)
theorem rnorm_eq (n d : Nat) (b : Gk) (l : List Nat) (hl : Limbs l) (hn : l.length < n) (hlen : l.length ≤ 1000000) : evalFn Tryd.prog cfg0 n (d+1) 98 [.tree (encL b l)] = some (.tree (encF (val l)), [[]]) := by
  rw [evalFn_go _ Tryd.func98 (by unfold Tryd.f98; rfl) (by unfold Tryd.f98; decide) (Nat.le_of_ble_eq_true (by unfold Tryd.f98; rfl)) (by kernel_rfl)]
  simp only [zaa, zab, zac, zad, zae, zaf, zag, zah, zai, zaj, zak, zal, zam, zan, zao, zap, zaq, zar, zas, zat, zau, zav, zaw, zax, zay, zaz, zba, zbb, zbc, zbd, zbe, zbf, zbg, zbh, zbi, zbj, Nat.reduceBEq, Bool.or_self, Bool.or_false, Bool.or_true, Bool.and_true, Bool.and_false, Bool.true_and, Bool.false_and, Option.isNone_none, Option.isNone_some, Option.isSome_some, Option.isSome_none, zbk, zbl, zbm, zbn, zbo, zbp, zbq, zbr, zbs, zbt, zbu, zbv, zbw, zbx, zby, zbz, zca, zcb, zcc, zcd, zce, zcf, zcg, zch, zci, zcj, zck, zcl, zcm, zcn, zco, zcp, zcq, zcr, zcs, zct, zcu, zcv, zcw, zcx, zcy, zcz, zda, zdb, zdc, zdd, zde, zdf, Option.getD_some, Option.getD_none, zet, zeu, zev, zew, zex, zey, zez, zfa, Option.map_some, Option.map_none, Option.bind_some, List.map_cons, List.map_nil, List.cons_append, List.nil_append, ↓reduceIte, Nat.reduceEqDiff, Nat.reduceAdd, decide_true, decide_false, Bool.true_eq_false, Bool.false_eq_true, env0, List.getElem?_cons_zero, List.getElem?_cons_succ, zdg, zdh, zdi, zdj, zdk, zdl, zdm, zdn, ia22, ld31, zdo, zdp, st0_1, den_loop]
  refine loop_ends (X := Nat) (fun k env s => env 0 = encL b l ∧ env 3 = .int .i64 (k : Int) ∧ s = dead ∧ k ≤ l.length ∧ val (l.take k) = val l) id (fun _ => (.tree (encF (val l)), [[]])) ?_ n l.length _ _ hn ⟨rfl, rfl, rfl, Nat.le_refl _, by simp⟩
  intro k x hx ih env s ⟨h0, h3, hs, hk, hv⟩
  subst hs
  obtain ⟨b', e3⟩ := slice22h dead b l x hk
  have fin : (∀ y, x = y + 1 → l.getD y 0 ≠ 0) → encF (val l) = .sl (encC (l.take x)) (l.take x).length .loose := by
    intro hz
    have hd : digs (val l) = l.take x := by
      rw [← hv]
      refine digs_val _ (hl.take _) ?_
      intro u hu
      cases x with
      | zero => simp at hu
      | succ y =>
        have el : (l.take (y + 1)).length = y + 1 := by rw [List.length_take]; omega
        rw [List.getLast?_eq_getElem?, el, Nat.add_sub_cancel, List.getElem?_take, if_pos (Nat.lt_succ_self y)] at hu
        have := hz y rfl
        rw [List.getD_eq_getElem?_getD, hu] at this
        exact this
    rw [encF, hd]; rfl
  obtain ⟨s', p, t, ea, _⟩ := append22t 21 dead (.sl [] 0 .nil) [] (l.take x) b' (hold_nil _) (by simp only [List.length_nil, List.length_take]; omega)
  rw [List.nil_append] at ea
  have hf : finish1 (cfg0.keep 98) [Arg.tree (encL b l)].length s' (.sl (encC (l.take x)) (l.take x).length (.tok p t)) = some (.tree (.sl (encC (l.take x)) (l.take x).length .loose), s') := rfl
  by_cases hp : x = 0
  · subst hp
    have q1 : ¬ (((0 : Nat) : Int) > 0) := by omega
    simp only [zaa, zab, zac, zad, zae, zaf, zag, zah, zai, zaj, zak, zal, zam, zan, zao, zap, zaq, zar, zas, zat, zau, zav, zaw, zax, zay, zaz, zba, zbb, zbc, zbd, zbe, zbf, zbg, zbh, zbi, zbj, Nat.reduceBEq, Bool.or_self, Bool.or_false, Bool.or_true, Bool.and_true, Bool.and_false, Bool.true_and, Bool.false_and, Option.isNone_none, Option.isNone_some, Option.isSome_some, Option.isSome_none, zbk, zbl, zbm, zbn, zbo, zbp, zbq, zbr, zbs, zbt, zbu, zbv, zbw, zbx, zby, zbz, zca, zcb, zcc, zcd, zce, zcf, zcg, zch, zci, zcj, zck, zcl, zcm, zcn, zco, zcp, zcq, zcr, zcs, zct, zcu, zcv, zcw, zcx, zcy, zcz, zda, zdb, zdc, zdd, zde, zdf, Option.getD_some, Option.getD_none, zet, zeu, zev, zew, zex, zey, zez, zfa, Option.map_some, Option.map_none, Option.bind_some, List.map_cons, List.map_nil, List.cons_append, List.nil_append, ↓reduceIte, Nat.reduceEqDiff, Nat.reduceAdd, decide_true, decide_false, Bool.true_eq_false, Bool.false_eq_true, zdg, zdh, zdi, zdj, zdk, zdl, zdm, zdn, ia22, ld31, zdo, zdp, h0, h3, q1, Option.map_none, e3, ea]
    rw [fin (by omega)]
    exact finish_tree _ _ _ _ _ _ (.sl (encC (l.take 0)) (l.take 0).length (.tok p t)) _ _ (by simp only [zfa, ↓reduceIte]) hf rfl
  · obtain ⟨y, rfl⟩ : ∃ y, x = y + 1 := ⟨x - 1, by omega⟩
    have p1 : ((y + 1 : Nat) : Int) > 0 := by omega
    have p2 : ((y + 1 : Nat) : Int) - 1 = (y : Int) := by omega
    have p3 : (y : Int) < l.length := by omega
    have p4 : y < l.length := by omega
    have p6 : (0 : Int) ≤ y := by omega
    have e1 : binA Tryd.prog .sub 3 (.int .i64 ((y + 1 : Nat) : Int)) (.int .i64 1) = some (.int .i64 (y : Int)) := by rw [i_sub _ _ _ _ (by omega) (by omega), p2]
    by_cases hz : l.getD y 0 = 0
    · have p5 : (((l.getD y 0 : Nat) : Int) == 0) = true := by rw [hz]; rfl
      simp only [zaa, zab, zac, zad, zae, zaf, zag, zah, zai, zaj, zak, zal, zam, zan, zao, zap, zaq, zar, zas, zat, zau, zav, zaw, zax, zay, zaz, zba, zbb, zbc, zbd, zbe, zbf, zbg, zbh, zbi, zbj, Nat.reduceBEq, Bool.or_self, Bool.or_false, Bool.or_true, Bool.and_true, Bool.and_false, Bool.true_and, Bool.false_and, Option.isNone_none, Option.isNone_some, Option.isSome_some, Option.isSome_none, zbk, zbl, zbm, zbn, zbo, zbp, zbq, zbr, zbs, zbt, zbu, zbv, zbw, zbx, zby, zbz, zca, zcb, zcc, zcd, zce, zcf, zcg, zch, zci, zcj, zck, zcl, zcm, zcn, zco, zcp, zcq, zcr, zcs, zct, zcu, zcv, zcw, zcx, zcy, zcz, zda, zdb, zdc, zdd, zde, zdf, Option.getD_some, Option.getD_none, zet, zeu, zev, zew, zex, zey, zez, zfa, Option.map_some, Option.map_none, Option.bind_some, List.map_cons, List.map_nil, List.cons_append, List.nil_append, ↓reduceIte, Nat.reduceEqDiff, Nat.reduceAdd, decide_true, decide_false, Bool.true_eq_false, Bool.false_eq_true, zdg, zdh, zdi, zdj, zdk, zdl, zdm, zdn, ia22, ld31, zdo, zdp, h0, h3, p1, e1, p6, p3, Int.toNat_natCast, p4, p5]
      refine ih y _ _ (Nat.lt_succ_self _) rfl ⟨?_, ?_, rfl, by omega, ?_⟩
      · simp only [zfa, ↓reduceIte, Nat.reduceEqDiff, h0]
      · simp only [zfa, ↓reduceIte, Nat.reduceEqDiff]
      · rw [← hv, val_take_succ _ _ p4, hz, Nat.mul_zero, Nat.add_zero]
    · have p5 : (((l.getD y 0 : Nat) : Int) == 0) = false := by
        rw [beq_eq_false_iff_ne]; omega
      simp only [zaa, zab, zac, zad, zae, zaf, zag, zah, zai, zaj, zak, zal, zam, zan, zao, zap, zaq, zar, zas, zat, zau, zav, zaw, zax, zay, zaz, zba, zbb, zbc, zbd, zbe, zbf, zbg, zbh, zbi, zbj, Nat.reduceBEq, Bool.or_self, Bool.or_false, Bool.or_true, Bool.and_true, Bool.and_false, Bool.true_and, Bool.false_and, Option.isNone_none, Option.isNone_some, Option.isSome_some, Option.isSome_none, zbk, zbl, zbm, zbn, zbo, zbp, zbq, zbr, zbs, zbt, zbu, zbv, zbw, zbx, zby, zbz, zca, zcb, zcc, zcd, zce, zcf, zcg, zch, zci, zcj, zck, zcl, zcm, zcn, zco, zcp, zcq, zcr, zcs, zct, zcu, zcv, zcw, zcx, zcy, zcz, zda, zdb, zdc, zdd, zde, zdf, Option.getD_some, Option.getD_none, zet, zeu, zev, zew, zex, zey, zez, zfa, Option.map_some, Option.map_none, Option.bind_some, List.map_cons, List.map_nil, List.cons_append, List.nil_append, ↓reduceIte, Nat.reduceEqDiff, Nat.reduceAdd, decide_true, decide_false, Bool.true_eq_false, Bool.false_eq_true, zdg, zdh, zdi, zdj, zdk, zdl, zdm, zdn, ia22, ld31, zdo, zdp, h0, h3, p1, e1, p6, p3, Int.toNat_natCast, p4, p5, e3, ea]
      rw [fin (by intro y' hy'; have : y' = y := by omega
                  subst this; exact hz)]
      exact finish_tree _ _ _ _ _ _ (.sl (encC (l.take (y + 1))) (l.take (y + 1)).length (.tok p t)) _ _ (by simp only [zfa, ↓reduceIte]) hf rfl
end Go.Ab

/- The reference's own functions on numbers: Cmp, Add, Sub. Conditions: limbs in range, not too many. -/
namespace Go.Ab
open Go.Proofs
set_option maxRecDepth 100000
set_option linter.unusedSimpArgs false

theorem rnorm_hold (n d : Nat) (s : St) (v : AV) (o : List Nat) (h : Hold s v o) (ho : Limbs o) (hn : o.length < n) (hl : o.length ≤ 1000000) (D : Nat) : ∃ s', callA cfg0 (evalFn Tryd.prog cfg0 n (d + 1)) D s 98 [v] = some (encF (val o), s') := by
  rcases h with ⟨rfl, rfl⟩ | ⟨p, t, rfl, hp⟩ | ⟨p, t, rfl, hp⟩
  · exact ⟨s, callA_L1 _ D s 98 .n [] _ (rnorm_eq n d .n [] ho hn hl)⟩
  · have := rnorm_eq n d .l o ho hn hl
    rw [show encL .l o = .sl (encC o) o.length .loose from rfl] at this
    refine ⟨s, ?_⟩
    simp [callA, argsA, argA, givesL, lendsL, givesOf, lendsOf, this, backA, resA, lin0]
  · have := rnorm_eq n d .l o ho hn hl
    rw [show encL .l o = .sl (encC o) o.length .loose from rfl] at this
    have hf : flatR (.tree (encF (val o))) = false := rfl
    refine ⟨frzAt s p, ?_⟩
    have ht : (encC o).take o.length = encC o := List.take_of_length_le (by rw [encC_len]; exact Nat.le_refl _)
    have hle : 0 + o.length * 1 ≤ (encC o).length := by rw [encC_len]; omega
    simp [callA, argsA, argA, cellsAt, hp, ht, encC_len, givesL, lendsL, givesOf, lendsOf, this, hf, backA, resA, lin0]

theorem finish_F (k : Bool) (xs : List Arg) (t : Nat) (env : Env) (s : St) (v : Nat) (os : List (List AV)) (hv : env t = encF v) (ho : outsA s 0 xs = some os) :
    finishP Tryd.prog k xs #[.tmp t] env s = some (.tree (encF v), os) := finish_L _ _ _ _ _ _ _ _ hv ho
theorem cmpZ_1 (x y : Nat) (h : x < y) : cmpZ x y = -1 := by simp only [cmpZ, h, if_true]
theorem cmpZ_2 (x y : Nat) (h : y < x) : cmpZ x y = 1 := by
  have : ¬ x < y := by omega
  simp only [cmpZ, h, this, if_true, if_false]
theorem rcmp_eq (n d : Nat) (b b' : Gk) (l m : List Nat) (hl : Limbs l) (hm : Limbs m) (hn : l.length < n) (hn' : m.length < n) (hll : l.length ≤ 1000000) (hml : m.length ≤ 1000000) :
    evalFn Tryd.prog cfg0 n (d+2) 96 [.tree (encL b l), .tree (encL b' m)] = some (.tree (.int .i64 (cmpZ (val l) (val m))), [[], []]) := by
  rw [evalFn_go _ Tryd.func96 (by unfold Tryd.f96; rfl) (by unfold Tryd.f96; decide) (Nat.le_of_ble_eq_true (by unfold Tryd.f96; rfl)) (by kernel_rfl)]
  have e0 := i_sub Tryd.prog 3 ((max l.length m.length : Nat) : Int) 1 (by omega) (by omega)
  simp only [zaa, zab, zac, zad, zae, zaf, zag, zah, zai, zaj, zak, zal, zam, zan, zao, zap, zaq, zar, zas, zat, zau, zav, zaw, zax, zay, zaz, zba, zbb, zbc, zbd, zbe, zbf, zbg, zbh, zbi, zbj, Nat.reduceBEq, Bool.or_self, Bool.or_false, Bool.or_true, Bool.and_true, Bool.and_false, Bool.true_and, Bool.false_and, Option.isNone_none, Option.isNone_some, Option.isSome_some, Option.isSome_none, zbk, zbl, zbm, zbn, zbo, zbp, zbq, zbr, zbs, zbt, zbu, zbv, zbw, zbx, zby, zbz, zca, zcb, zcc, zcd, zce, zcf, zcg, zch, zci, zcj, zck, zcl, zcm, zcn, zco, zcp, zcq, zcr, zcs, zct, zcu, zcv, zcw, zcx, zcy, zcz, zda, zdb, zdc, zdd, zde, zdf, Option.getD_some, Option.getD_none, zet, zeu, zev, zew, zex, zey, zez, zfa, Option.map_some, Option.map_none, Option.bind_some, List.map_cons, List.map_nil, List.cons_append, List.nil_append, ↓reduceIte, Nat.reduceEqDiff, Nat.reduceAdd, decide_true, decide_false, Bool.true_eq_false, Bool.false_eq_true, env0, List.getElem?_cons_zero, List.getElem?_cons_succ, zdg, zdh, zdi, zdj, zdk, zdl, zdm, zdn, ia22, ld31, zdo, zdp, st0_2, max_eq, e0, den_loop]
  refine loop_ends (X := Nat) (fun k env s => env 0 = encL b l ∧ env 1 = encL b' m ∧ env 5 = .int .i64 ((k : Int) - 1) ∧ s = dead ∧ k ≤ max l.length m.length ∧ Alike l m k) id (fun _ => (.tree (.int .i64 (cmpZ (val l) (val m))), [[], []])) ?_ n (max l.length m.length) _ _ (by simp only [id]; omega) ⟨rfl, rfl, rfl, rfl, Nat.le_refl _, alike_top _ _ _ (by omega) (by omega)⟩
  intro k x hx ih env s ⟨h0, h1, h5, hs, hk, hv⟩
  subst hs
  by_cases hp : x = 0
  · subst hp
    have q1 : ¬ (((0 : Nat) : Int) - 1 ≥ 0) := by omega
    simp only [zaa, zab, zac, zad, zae, zaf, zag, zah, zai, zaj, zak, zal, zam, zan, zao, zap, zaq, zar, zas, zat, zau, zav, zaw, zax, zay, zaz, zba, zbb, zbc, zbd, zbe, zbf, zbg, zbh, zbi, zbj, Nat.reduceBEq, Bool.or_self, Bool.or_false, Bool.or_true, Bool.and_true, Bool.and_false, Bool.true_and, Bool.false_and, Option.isNone_none, Option.isNone_some, Option.isSome_some, Option.isSome_none, zbk, zbl, zbm, zbn, zbo, zbp, zbq, zbr, zbs, zbt, zbu, zbv, zbw, zbx, zby, zbz, zca, zcb, zcc, zcd, zce, zcf, zcg, zch, zci, zcj, zck, zcl, zcm, zcn, zco, zcp, zcq, zcr, zcs, zct, zcu, zcv, zcw, zcx, zcy, zcz, zda, zdb, zdc, zdd, zde, zdf, Option.getD_some, Option.getD_none, zet, zeu, zev, zew, zex, zey, zez, zfa, Option.map_some, Option.map_none, Option.bind_some, List.map_cons, List.map_nil, List.cons_append, List.nil_append, ↓reduceIte, Nat.reduceEqDiff, Nat.reduceAdd, decide_true, decide_false, Bool.true_eq_false, Bool.false_eq_true, zdg, zdh, zdi, zdj, zdk, zdl, zdm, zdn, ia22, ld31, zdo, zdp, h0, h1, h5, q1]
    rw [alike_0 _ _ hv, cmpZ_self]
    exact finish_tree _ _ _ _ _ _ (.int .i64 0) _ _ (by simp only [zfa, ↓reduceIte]) rfl rfl
  · obtain ⟨y, rfl⟩ : ∃ y, x = y + 1 := ⟨x - 1, by omega⟩
    have p2 : ((y + 1 : Nat) : Int) - 1 = (y : Int) := by omega
    rw [p2] at h5
    have p6 : (y : Int) ≥ 0 := by omega
    have e1 := i_sub Tryd.prog 3 (y : Int) 1 (by omega) (by omega)
    have c1 := rat_call n d b l hl y
    have c2 := rat_call n d b' m hm y
    by_cases hz : l.getD y 0 < m.getD y 0
    · have p5 : ((l.getD y 0 : Nat) : Int) < ((m.getD y 0 : Nat) : Int) := by omega
      simp only [zaa, zab, zac, zad, zae, zaf, zag, zah, zai, zaj, zak, zal, zam, zan, zao, zap, zaq, zar, zas, zat, zau, zav, zaw, zax, zay, zaz, zba, zbb, zbc, zbd, zbe, zbf, zbg, zbh, zbi, zbj, Nat.reduceBEq, Bool.or_self, Bool.or_false, Bool.or_true, Bool.and_true, Bool.and_false, Bool.true_and, Bool.false_and, Option.isNone_none, Option.isNone_some, Option.isSome_some, Option.isSome_none, zbk, zbl, zbm, zbn, zbo, zbp, zbq, zbr, zbs, zbt, zbu, zbv, zbw, zbx, zby, zbz, zca, zcb, zcc, zcd, zce, zcf, zcg, zch, zci, zcj, zck, zcl, zcm, zcn, zco, zcp, zcq, zcr, zcs, zct, zcu, zcv, zcw, zcx, zcy, zcz, zda, zdb, zdc, zdd, zde, zdf, Option.getD_some, Option.getD_none, zet, zeu, zev, zew, zex, zey, zez, zfa, Option.map_some, Option.map_none, Option.bind_some, List.map_cons, List.map_nil, List.cons_append, List.nil_append, ↓reduceIte, Nat.reduceEqDiff, Nat.reduceAdd, decide_true, decide_false, Bool.true_eq_false, Bool.false_eq_true, zdg, zdh, zdi, zdj, zdk, zdl, zdm, zdn, ia22, ld31, zdo, zdp, h0, h1, h5, p6, c1, c2, e1, p5]
      rw [alike_ne _ _ hl hm _ hv (by omega), cmpZ_1 _ _ hz]
      exact finish_tree _ _ _ _ _ _ (.int .i64 (-1)) _ _ (by simp only [zfa, ↓reduceIte, Nat.reduceEqDiff]) rfl rfl
    · have p5 : ¬ ((l.getD y 0 : Nat) : Int) < ((m.getD y 0 : Nat) : Int) := by omega
      by_cases hy : m.getD y 0 < l.getD y 0
      · have p7 : ((l.getD y 0 : Nat) : Int) > ((m.getD y 0 : Nat) : Int) := by omega
        simp only [zaa, zab, zac, zad, zae, zaf, zag, zah, zai, zaj, zak, zal, zam, zan, zao, zap, zaq, zar, zas, zat, zau, zav, zaw, zax, zay, zaz, zba, zbb, zbc, zbd, zbe, zbf, zbg, zbh, zbi, zbj, Nat.reduceBEq, Bool.or_self, Bool.or_false, Bool.or_true, Bool.and_true, Bool.and_false, Bool.true_and, Bool.false_and, Option.isNone_none, Option.isNone_some, Option.isSome_some, Option.isSome_none, zbk, zbl, zbm, zbn, zbo, zbp, zbq, zbr, zbs, zbt, zbu, zbv, zbw, zbx, zby, zbz, zca, zcb, zcc, zcd, zce, zcf, zcg, zch, zci, zcj, zck, zcl, zcm, zcn, zco, zcp, zcq, zcr, zcs, zct, zcu, zcv, zcw, zcx, zcy, zcz, zda, zdb, zdc, zdd, zde, zdf, Option.getD_some, Option.getD_none, zet, zeu, zev, zew, zex, zey, zez, zfa, Option.map_some, Option.map_none, Option.bind_some, List.map_cons, List.map_nil, List.cons_append, List.nil_append, ↓reduceIte, Nat.reduceEqDiff, Nat.reduceAdd, decide_true, decide_false, Bool.true_eq_false, Bool.false_eq_true, zdg, zdh, zdi, zdj, zdk, zdl, zdm, zdn, ia22, ld31, zdo, zdp, h0, h1, h5, p6, c1, c2, e1, p5, p7]
        rw [alike_ne _ _ hl hm _ hv (by omega), cmpZ_2 _ _ hy]
        exact finish_tree _ _ _ _ _ _ (.int .i64 1) _ _ (by simp only [zfa, ↓reduceIte, Nat.reduceEqDiff]) rfl rfl
      · have p7 : ¬ ((l.getD y 0 : Nat) : Int) > ((m.getD y 0 : Nat) : Int) := by omega
        simp only [zaa, zab, zac, zad, zae, zaf, zag, zah, zai, zaj, zak, zal, zam, zan, zao, zap, zaq, zar, zas, zat, zau, zav, zaw, zax, zay, zaz, zba, zbb, zbc, zbd, zbe, zbf, zbg, zbh, zbi, zbj, Nat.reduceBEq, Bool.or_self, Bool.or_false, Bool.or_true, Bool.and_true, Bool.and_false, Bool.true_and, Bool.false_and, Option.isNone_none, Option.isNone_some, Option.isSome_some, Option.isSome_none, zbk, zbl, zbm, zbn, zbo, zbp, zbq, zbr, zbs, zbt, zbu, zbv, zbw, zbx, zby, zbz, zca, zcb, zcc, zcd, zce, zcf, zcg, zch, zci, zcj, zck, zcl, zcm, zcn, zco, zcp, zcq, zcr, zcs, zct, zcu, zcv, zcw, zcx, zcy, zcz, zda, zdb, zdc, zdd, zde, zdf, Option.getD_some, Option.getD_none, zet, zeu, zev, zew, zex, zey, zez, zfa, Option.map_some, Option.map_none, Option.bind_some, List.map_cons, List.map_nil, List.cons_append, List.nil_append, ↓reduceIte, Nat.reduceEqDiff, Nat.reduceAdd, decide_true, decide_false, Bool.true_eq_false, Bool.false_eq_true, zdg, zdh, zdi, zdj, zdk, zdl, zdm, zdn, ia22, ld31, zdo, zdp, h0, h1, h5, p6, c1, c2, e1, p5, p7]
        refine ih y _ _ (Nat.lt_succ_self _) rfl ⟨?_, ?_, ?_, rfl, by omega, alike_down _ _ _ hv (by omega)⟩
        · simp only [zfa, ↓reduceIte, Nat.reduceEqDiff, h0]
        · simp only [zfa, ↓reduceIte, Nat.reduceEqDiff, h1]
        · simp only [zfa, ↓reduceIte, Nat.reduceEqDiff]
end Go.Ab

/- The reference's own functions on numbers: Add, Sub. Conditions: limbs in range, not too many. -/
namespace Go.Ab
open Go.Proofs
set_option maxRecDepth 100000
set_option linter.unusedSimpArgs false

theorem radd_eq (n d : Nat) (b b' : Gk) (l m : List Nat) (hl : Limbs l) (hm : Limbs m) (hn : l.length + 2 < n) (hn' : m.length + 2 < n) (hll : l.length ≤ 100000) (hml : m.length ≤ 100000) :
    evalFn Tryd.prog cfg0 n (d+2) 95 [.tree (encL b l), .tree (encL b' m)] = some (.tree (encF (val l + val m)), [[], []]) := by
  rw [evalFn_go _ Tryd.func95 (by unfold Tryd.f95; rfl) (by unfold Tryd.f95; decide) (Nat.le_of_ble_eq_true (by unfold Tryd.f95; rfl)) (by kernel_rfl)]
  have e0 := i_add Tryd.prog 3 ((max l.length m.length : Nat) : Int) 1 (by omega) (by omega)
  rw [show ((max l.length m.length : Nat) : Int) + 1 = ((max l.length m.length + 1 : Nat) : Int) by omega] at e0
  simp only [zaa, zab, zac, zad, zae, zaf, zag, zah, zai, zaj, zak, zal, zam, zan, zao, zap, zaq, zar, zas, zat, zau, zav, zaw, zax, zay, zaz, zba, zbb, zbc, zbd, zbe, zbf, zbg, zbh, zbi, zbj, Nat.reduceBEq, Bool.or_self, Bool.or_false, Bool.or_true, Bool.and_true, Bool.and_false, Bool.true_and, Bool.false_and, Option.isNone_none, Option.isNone_some, Option.isSome_some, Option.isSome_none, zbk, zbl, zbm, zbn, zbo, zbp, zbq, zbr, zbs, zbt, zbu, zbv, zbw, zbx, zby, zbz, zca, zcb, zcc, zcd, zce, zcf, zcg, zch, zci, zcj, zck, zcl, zcm, zcn, zco, zcp, zcq, zcr, zcs, zct, zcu, zcv, zcw, zcx, zcy, zcz, zda, zdb, zdc, zdd, zde, zdf, Option.getD_some, Option.getD_none, zet, zeu, zev, zew, zex, zey, zez, zfa, Option.map_some, Option.map_none, Option.bind_some, List.map_cons, List.map_nil, List.cons_append, List.nil_append, ↓reduceIte, Nat.reduceEqDiff, Nat.reduceAdd, decide_true, decide_false, Bool.true_eq_false, Bool.false_eq_true, env0, List.getElem?_cons_zero, List.getElem?_cons_succ, zdg, zdh, zdi, zdj, zdk, zdl, zdm, zdn, ia22, ld31, zdo, zdp, st0_2, den_loop]
  have hmx := max_eq l.length m.length
  generalize hM : max l.length m.length = M at *
  refine loop_ends (X := Nat × Nat × List Nat) (fun x env s => env 0 = encL b l ∧ env 1 = encL b' m ∧ env 7 = .int .i64 (x.1 : Int) ∧ env 6 = .int .u64 (x.2.1 : Int) ∧ Hold s (env 5) x.2.2 ∧ x.1 ≤ M + 1 ∧ x.2.1 ≤ 1 ∧ x.2.2.length = x.1 ∧ Limbs x.2.2 ∧ val x.2.2 + B ^ x.1 * x.2.1 = val (l.take x.1) + val (m.take x.1)) (fun x => M + 1 - x.1) (fun _ => (.tree (encF (val l + val m)), [[], []])) ?_ n (0, 0, []) _ _ (by simp only; omega) ⟨rfl, rfl, rfl, rfl, hold_nil _, by simp, by simp, rfl, limbs_nil, by simp [val]⟩
  intro k ⟨i, c, o⟩ hx ih env s ⟨h0, h1, h7, h6, h5, hi, hc, hol, hoL, hv⟩
  simp only at h0 h1 h7 h6 h5 hi hc hol hoL hv hx
  by_cases hp : i = M + 1
  · have q1 : ¬ ((i : Int) < ((M + 1 : Nat) : Int)) := by omega
    obtain ⟨s9, e9⟩ := rnorm_hold n d s (env 5) o h5 hoL (by omega) (by omega) 35
    simp only [zaa, zab, zac, zad, zae, zaf, zag, zah, zai, zaj, zak, zal, zam, zan, zao, zap, zaq, zar, zas, zat, zau, zav, zaw, zax, zay, zaz, zba, zbb, zbc, zbd, zbe, zbf, zbg, zbh, zbi, zbj, Nat.reduceBEq, Bool.or_self, Bool.or_false, Bool.or_true, Bool.and_true, Bool.and_false, Bool.true_and, Bool.false_and, Option.isNone_none, Option.isNone_some, Option.isSome_some, Option.isSome_none, zbk, zbl, zbm, zbn, zbo, zbp, zbq, zbr, zbs, zbt, zbu, zbv, zbw, zbx, zby, zbz, zca, zcb, zcc, zcd, zce, zcf, zcg, zch, zci, zcj, zck, zcl, zcm, zcn, zco, zcp, zcq, zcr, zcs, zct, zcu, zcv, zcw, zcx, zcy, zcz, zda, zdb, zdc, zdd, zde, zdf, Option.getD_some, Option.getD_none, zet, zeu, zev, zew, zex, zey, zez, zfa, Option.map_some, Option.map_none, Option.bind_some, List.map_cons, List.map_nil, List.cons_append, List.nil_append, ↓reduceIte, Nat.reduceEqDiff, Nat.reduceAdd, decide_true, decide_false, Bool.true_eq_false, Bool.false_eq_true, zdg, zdh, zdi, zdj, zdk, zdl, zdm, zdn, ia22, ld31, zdo, zdp, h0, h1, h7, hmx, e0, q1, e9]
    rw [add_end l m o i c hl hm (by omega) (by omega) hv]
    exact finish_F _ _ _ _ _ _ _ (by simp only [zfa, ↓reduceIte]) rfl
  · have q1 : (i : Int) < ((M + 1 : Nat) : Int) := by omega
    have c1 := rat_call n d b l hl i
    have c2 := rat_call n d b' m hm i
    have hx1 := getD_lt l hl i
    have hx2 := getD_lt m hm i
    have e1 := u_add Tryd.prog 111 c (l.getD i 0)
    rw [Nat.mod_eq_of_lt (by omega)] at e1
    have e2 := u_add Tryd.prog 111 (c + l.getD i 0) (m.getD i 0)
    rw [Nat.mod_eq_of_lt (by omega), Nat.add_assoc] at e2
    have e3 := u_shr Tryd.prog 111 (c + (l.getD i 0 + m.getD i 0)) .u64 32 (by decide) (by decide)
    rw [show (2 : Nat) ^ (32 : Int).toNat = 4294967296 from rfl] at e3
    have e4 := i_add Tryd.prog 3 (i : Int) 1 (by omega) (by omega)
    have hlim : (c + (l.getD i 0 + m.getD i 0)) % 4294967296 < B := Nat.mod_lt _ (by decide)
    obtain ⟨v', s', ea, hh⟩ := append22 31 s (env 5) o [(c + (l.getD i 0 + m.getD i 0)) % 4294967296] .t h5 (by simp only [List.length_cons, List.length_nil]; omega)
    rw [show encL .t [(c + (l.getD i 0 + m.getD i 0)) % 4294967296] = .sl [.int .u32 (((c + (l.getD i 0 + m.getD i 0)) % 4294967296 : Nat) : Int)] 1 .tight from rfl] at ea
    simp only [zaa, zab, zac, zad, zae, zaf, zag, zah, zai, zaj, zak, zal, zam, zan, zao, zap, zaq, zar, zas, zat, zau, zav, zaw, zax, zay, zaz, zba, zbb, zbc, zbd, zbe, zbf, zbg, zbh, zbi, zbj, Nat.reduceBEq, Bool.or_self, Bool.or_false, Bool.or_true, Bool.and_true, Bool.and_false, Bool.true_and, Bool.false_and, Option.isNone_none, Option.isNone_some, Option.isSome_some, Option.isSome_none, zbk, zbl, zbm, zbn, zbo, zbp, zbq, zbr, zbs, zbt, zbu, zbv, zbw, zbx, zby, zbz, zca, zcb, zcc, zcd, zce, zcf, zcg, zch, zci, zcj, zck, zcl, zcm, zcn, zco, zcp, zcq, zcr, zcs, zct, zcu, zcv, zcw, zcx, zcy, zcz, zda, zdb, zdc, zdd, zde, zdf, Option.getD_some, Option.getD_none, zet, zeu, zev, zew, zex, zey, zez, zfa, Option.map_some, Option.map_none, Option.bind_some, List.map_cons, List.map_nil, List.cons_append, List.nil_append, ↓reduceIte, Nat.reduceEqDiff, Nat.reduceAdd, decide_true, decide_false, Bool.true_eq_false, Bool.false_eq_true, zdg, zdh, zdi, zdj, zdk, zdl, zdm, zdn, ia22, ld31, zdo, zdp, h0, h1, h7, h6, hmx, e0, q1, c1, c2, e1, e2, e3, e4, opA_one, one22_int, ea]
    refine ih (i + 1, (c + (l.getD i 0 + m.getD i 0)) / 4294967296, o ++ [(c + (l.getD i 0 + m.getD i 0)) % 4294967296]) _ _ (by simp only; omega) rfl ⟨?_, ?_, ?_, ?_, ?_, ?_, ?_, ?_, ?_, ?_⟩
    · simp only [zfa, ↓reduceIte, Nat.reduceEqDiff, h0]
    · simp only [zfa, ↓reduceIte, Nat.reduceEqDiff, h1]
    · simp only [zfa, ↓reduceIte, Nat.reduceEqDiff]; rfl
    · simp only [zfa, ↓reduceIte, Nat.reduceEqDiff]
    · simp only [zfa, ↓reduceIte, Nat.reduceEqDiff]; exact hh
    · simp only; omega
    · simp only; omega
    · simp only [List.length_append, List.length_cons, List.length_nil]; omega
    · exact hoL.app (limbs_one hlim)
    · exact add_step l m o i c hol hv
end Go.Ab

/- The reference's Sub. Conditions: limbs in range, not too many. -/
namespace Go.Ab
open Go.Proofs
set_option maxRecDepth 100000
set_option linter.unusedSimpArgs false

theorem val_take_small (b : List Nat) (hb : Limbs b) (k : Nat) (h : val b < B ^ k) : val (b.take k) = val b := by
  have h1 : val b = val (b.take k) + B ^ (b.take k).length * val (b.drop k) := by rw [← val_app, List.take_append_drop]
  rw [val_drop b hb k, Nat.div_eq_of_lt h, Nat.mul_zero, Nat.add_zero] at h1
  exact h1.symm
theorem rsub_end (a b o : List Nat) (c : Nat) (ha : Limbs a) (hb : Limbs b) (ho : Limbs o) (hi : o.length = a.length) (hle : val b ≤ val a) (h : val o + val (b.take a.length) = val (a.take a.length) + B ^ a.length * c) : val o = val a - val b := by
  have h0 := val_lt a ha
  rw [List.take_length, val_take_small b hb _ (by omega)] at h
  have h1 := val_lt o ho
  rw [hi] at h1
  rcases Nat.eq_zero_or_pos c with rfl | hc
  · rw [Nat.mul_zero, Nat.add_zero] at h; omega
  · exfalso
    have : B ^ a.length * 1 ≤ B ^ a.length * c := Nat.mul_le_mul_left _ hc
    omega
/-- A difference as the reference gives it. -/
def encS (x y : Nat) : AV := if x < y then .sl [] 0 .nil else encF (x - y)
theorem encS_sh (x y : Nat) : Sh (encS x y) (digs (x - y)) := by
  unfold encS
  split
  · rw [Nat.sub_eq_zero_of_le (by omega), digs_0]; exact ⟨_, rfl⟩
  · exact sh_L _ _
theorem rcmp_call (n d : Nat) (b b' : Gk) (l m : List Nat) (hl : Limbs l) (hm : Limbs m) (hn : l.length < n) (hn' : m.length < n) (hll : l.length ≤ 1000000) (hml : m.length ≤ 1000000) (D : Nat) (s : St) :
    callA cfg0 (evalFn Tryd.prog cfg0 n (d+2)) D s 96 [encL b l, encL b' m] = some (.int .i64 (cmpZ (val l) (val m)), s) :=
  callA_L2 _ _ _ _ _ _ _ _ _ (rcmp_eq n d b b' l m hl hm hn hn' hll hml)
theorem rsub_eq (n d : Nat) (b b' : Gk) (l m : List Nat) (hl : Limbs l) (hm : Limbs m) (hn : l.length + 2 < n) (hn' : m.length + 2 < n) (hll : l.length ≤ 100000) (hml : m.length ≤ 100000) :
    evalFn Tryd.prog cfg0 n (d+3) 97 [.tree (encL b l), .tree (encL b' m)] = some (.tree (encS (val l) (val m)), [[], []]) := by
  rw [evalFn_go _ Tryd.func97 (by unfold Tryd.f97; rfl) (by unfold Tryd.f97; decide) (Nat.le_of_ble_eq_true (by unfold Tryd.f97; rfl)) (by kernel_rfl)]
  have c0 := rcmp_call n d b b' l m hl hm (by omega) (by omega) (by omega) (by omega)
  by_cases hlt : val l < val m
  · have z1 : cmpZ (val l) (val m) < 0 := (cmpZ_lt _ _).mpr hlt
    simp only [zaa, zab, zac, zad, zae, zaf, zag, zah, zai, zaj, zak, zal, zam, zan, zao, zap, zaq, zar, zas, zat, zau, zav, zaw, zax, zay, zaz, zba, zbb, zbc, zbd, zbe, zbf, zbg, zbh, zbi, zbj, Nat.reduceBEq, Bool.or_self, Bool.or_false, Bool.or_true, Bool.and_true, Bool.and_false, Bool.true_and, Bool.false_and, Option.isNone_none, Option.isNone_some, Option.isSome_some, Option.isSome_none, zbk, zbl, zbm, zbn, zbo, zbp, zbq, zbr, zbs, zbt, zbu, zbv, zbw, zbx, zby, zbz, zca, zcb, zcc, zcd, zce, zcf, zcg, zch, zci, zcj, zck, zcl, zcm, zcn, zco, zcp, zcq, zcr, zcs, zct, zcu, zcv, zcw, zcx, zcy, zcz, zda, zdb, zdc, zdd, zde, zdf, Option.getD_some, Option.getD_none, zet, zeu, zev, zew, zex, zey, zez, zfa, Option.map_some, Option.map_none, Option.bind_some, List.map_cons, List.map_nil, List.cons_append, List.nil_append, ↓reduceIte, Nat.reduceEqDiff, Nat.reduceAdd, decide_true, decide_false, Bool.true_eq_false, Bool.false_eq_true, env0, List.getElem?_cons_zero, List.getElem?_cons_succ, zdg, zdh, zdi, zdj, zdk, zdl, zdm, zdn, ia22, ld31, zdo, zdp, c0, z1]
    rw [encS, if_pos hlt]
    exact finish_tree _ _ _ _ _ _ (.sl [] 0 .nil) _ _ (by simp only [zfa, ↓reduceIte]) rfl rfl
  have z1 : ¬ cmpZ (val l) (val m) < 0 := fun h => hlt ((cmpZ_lt _ _).mp h)
  rw [encS, if_neg hlt]
  simp only [zaa, zab, zac, zad, zae, zaf, zag, zah, zai, zaj, zak, zal, zam, zan, zao, zap, zaq, zar, zas, zat, zau, zav, zaw, zax, zay, zaz, zba, zbb, zbc, zbd, zbe, zbf, zbg, zbh, zbi, zbj, Nat.reduceBEq, Bool.or_self, Bool.or_false, Bool.or_true, Bool.and_true, Bool.and_false, Bool.true_and, Bool.false_and, Option.isNone_none, Option.isNone_some, Option.isSome_some, Option.isSome_none, zbk, zbl, zbm, zbn, zbo, zbp, zbq, zbr, zbs, zbt, zbu, zbv, zbw, zbx, zby, zbz, zca, zcb, zcc, zcd, zce, zcf, zcg, zch, zci, zcj, zck, zcl, zcm, zcn, zco, zcp, zcq, zcr, zcs, zct, zcu, zcv, zcw, zcx, zcy, zcz, zda, zdb, zdc, zdd, zde, zdf, Option.getD_some, Option.getD_none, zet, zeu, zev, zew, zex, zey, zez, zfa, Option.map_some, Option.map_none, Option.bind_some, List.map_cons, List.map_nil, List.cons_append, List.nil_append, ↓reduceIte, Nat.reduceEqDiff, Nat.reduceAdd, decide_true, decide_false, Bool.true_eq_false, Bool.false_eq_true, env0, List.getElem?_cons_zero, List.getElem?_cons_succ, zdg, zdh, zdi, zdj, zdk, zdl, zdm, zdn, ia22, ld31, zdo, zdp, st0_2, c0, z1, den_loop]
  refine loop_ends (X := Nat × Nat × List Nat) (fun x env s => env 0 = encL b l ∧ env 1 = encL b' m ∧ env 7 = .int .i64 (x.1 : Int) ∧ env 6 = .int .u64 (x.2.1 : Int) ∧ Hold s (env 5) x.2.2 ∧ x.1 ≤ l.length ∧ x.2.1 ≤ 1 ∧ x.2.2.length = x.1 ∧ Limbs x.2.2 ∧ val x.2.2 + val (m.take x.1) = val (l.take x.1) + B ^ x.1 * x.2.1) (fun x => l.length - x.1) (fun _ => (.tree (encF (val l - val m)), [[], []])) ?_ n (0, 0, []) _ _ (by simp only; omega) ⟨rfl, rfl, rfl, rfl, hold_nil _, by simp, by simp, rfl, limbs_nil, by simp [val]⟩
  intro k ⟨i, c, o⟩ hx ih env s ⟨h0, h1, h7, h6, h5, hi, hc, hol, hoL, hv⟩
  simp only at h0 h1 h7 h6 h5 hi hc hol hoL hv hx
  by_cases hp : i = l.length
  · subst hp
    have q1 : ¬ ((l.length : Int) < (l.length : Int)) := by omega
    obtain ⟨s9, e9⟩ := rnorm_hold n (d + 1) s (env 5) o h5 hoL (by omega) (by omega) 36
    simp only [zaa, zab, zac, zad, zae, zaf, zag, zah, zai, zaj, zak, zal, zam, zan, zao, zap, zaq, zar, zas, zat, zau, zav, zaw, zax, zay, zaz, zba, zbb, zbc, zbd, zbe, zbf, zbg, zbh, zbi, zbj, Nat.reduceBEq, Bool.or_self, Bool.or_false, Bool.or_true, Bool.and_true, Bool.and_false, Bool.true_and, Bool.false_and, Option.isNone_none, Option.isNone_some, Option.isSome_some, Option.isSome_none, zbk, zbl, zbm, zbn, zbo, zbp, zbq, zbr, zbs, zbt, zbu, zbv, zbw, zbx, zby, zbz, zca, zcb, zcc, zcd, zce, zcf, zcg, zch, zci, zcj, zck, zcl, zcm, zcn, zco, zcp, zcq, zcr, zcs, zct, zcu, zcv, zcw, zcx, zcy, zcz, zda, zdb, zdc, zdd, zde, zdf, Option.getD_some, Option.getD_none, zet, zeu, zev, zew, zex, zey, zez, zfa, Option.map_some, Option.map_none, Option.bind_some, List.map_cons, List.map_nil, List.cons_append, List.nil_append, ↓reduceIte, Nat.reduceEqDiff, Nat.reduceAdd, decide_true, decide_false, Bool.true_eq_false, Bool.false_eq_true, zdg, zdh, zdi, zdj, zdk, zdl, zdm, zdn, ia22, ld31, zdo, zdp, h0, h1, h7, q1, e9]
    rw [rsub_end l m o c hl hm hoL hol (by omega) hv]
    exact finish_F _ _ _ _ _ _ _ (by simp only [zfa, ↓reduceIte]) rfl
  · have q1 : (i : Int) < (l.length : Int) := by omega
    have c1 := rat_call n (d + 1) b l hl i
    have c2 := rat_call n (d + 1) b' m hm i
    have hx1 := getD_lt l hl i
    have hx2 := getD_lt m hm i
    have hst := sub_step l m o i c
    generalize l.getD i 0 = x at *
    generalize m.getD i 0 = y at *
    have e1 := u_sub Tryd.prog 111 x y (by omega)
    have e2 := u_sub Tryd.prog 111 ((x + (18446744073709551616 - y)) % 18446744073709551616) c (by omega)
    obtain ⟨u, hu⟩ : ∃ u, ((x + (18446744073709551616 - y)) % 18446744073709551616 + (18446744073709551616 - c)) % 18446744073709551616 = u := ⟨_, rfl⟩
    rw [hu] at e2
    have e3 := u_shr Tryd.prog 111 u .u64 63 (by decide) (by decide)
    rw [show (2 : Nat) ^ (63 : Int).toNat = 9223372036854775808 from rfl] at e3
    have e4 := i_add Tryd.prog 3 (i : Int) 1 (by omega) (by omega)
    have hlim : u % 4294967296 < B := Nat.mod_lt _ (by decide)
    obtain ⟨v', s', ea, hh⟩ := append22 32 s (env 5) o [u % 4294967296] .t h5 (by simp only [List.length_cons, List.length_nil]; omega)
    rw [show encL .t [u % 4294967296] = .sl [.int .u32 ((u % 4294967296 : Nat) : Int)] 1 .tight from rfl] at ea
    simp only [zaa, zab, zac, zad, zae, zaf, zag, zah, zai, zaj, zak, zal, zam, zan, zao, zap, zaq, zar, zas, zat, zau, zav, zaw, zax, zay, zaz, zba, zbb, zbc, zbd, zbe, zbf, zbg, zbh, zbi, zbj, Nat.reduceBEq, Bool.or_self, Bool.or_false, Bool.or_true, Bool.and_true, Bool.and_false, Bool.true_and, Bool.false_and, Option.isNone_none, Option.isNone_some, Option.isSome_some, Option.isSome_none, zbk, zbl, zbm, zbn, zbo, zbp, zbq, zbr, zbs, zbt, zbu, zbv, zbw, zbx, zby, zbz, zca, zcb, zcc, zcd, zce, zcf, zcg, zch, zci, zcj, zck, zcl, zcm, zcn, zco, zcp, zcq, zcr, zcs, zct, zcu, zcv, zcw, zcx, zcy, zcz, zda, zdb, zdc, zdd, zde, zdf, Option.getD_some, Option.getD_none, zet, zeu, zev, zew, zex, zey, zez, zfa, Option.map_some, Option.map_none, Option.bind_some, List.map_cons, List.map_nil, List.cons_append, List.nil_append, ↓reduceIte, Nat.reduceEqDiff, Nat.reduceAdd, decide_true, decide_false, Bool.true_eq_false, Bool.false_eq_true, zdg, zdh, zdi, zdj, zdk, zdl, zdm, zdn, ia22, ld31, zdo, zdp, h0, h1, h7, h6, q1, c1, c2, e1, e2, e3, e4, opA_one, one22_int, ea]
    refine ih (i + 1, u / 9223372036854775808, o ++ [u % 4294967296]) _ _ (by simp only; omega) rfl ⟨?_, ?_, ?_, ?_, ?_, ?_, ?_, ?_, ?_, ?_⟩
    · simp only [zfa, ↓reduceIte, Nat.reduceEqDiff, h0]
    · simp only [zfa, ↓reduceIte, Nat.reduceEqDiff, h1]
    · simp only [zfa, ↓reduceIte, Nat.reduceEqDiff]; rfl
    · simp only [zfa, ↓reduceIte, Nat.reduceEqDiff]
    · simp only [zfa, ↓reduceIte, Nat.reduceEqDiff]; exact hh
    · simp only; omega
    · simp only; omega
    · simp only [List.length_append, List.length_cons, List.length_nil]; omega
    · exact hoL.app (limbs_one hlim)
    · exact hst _ _ hol hv (borrow x y c u hx1 hx2 hc hu)
end Go.Ab

/- The reference's Mul. Conditions: limbs in range, not too many. -/
namespace Go.Ab
open Go.Proofs
set_option maxRecDepth 100000
set_option linter.unusedSimpArgs false

theorem isTree_encL (b : Gk) (l : List Nat) : isTree (encL b l) = true := by cases b <;> rfl
theorem rat_callq (n d : Nat) (b : Gk) (l : List Nat) (hl : Limbs l) (k : Nat) : callQ (evalFn Tryd.prog cfg0 n (d+1)) 99 [encL b l, .int .i64 (k : Int)] = some (.int .u64 ((l.getD k 0 : Nat) : Int)) := by
  have h := rat_eq n d b l hl k (by omega)
  rw [Int.toNat_natCast] at h
  have e : ([encL b l, AV.int .i64 (k : Int)]).all isTree = true := by simp [isTree_encL]; rfl
  rw [callQ, if_pos e]
  simp only [List.map_cons, List.map_nil, h, Option.bind_some]
theorem rmul_end (a b o o' : List Nat) (ha : Limbs a) (hb : Limbs b) (i c x : Nat) (hx : x = a.getD i 0) (ho : val o = val (a.take i) * val b) (h : val o' + B ^ (i + (b.length + 1)) * c = val o + B ^ i * (x * val (b.take (b.length + 1)))) : val o' = val (a.take (i + 1)) * val b := by
  have e : val o + B ^ i * (x * val (b.take (b.length + 1))) = val (a.take (i + 1)) * val b := by
    rw [List.take_of_length_le (by omega), ho, val_take_succ', Nat.add_mul, hx, Nat.mul_assoc]
  rw [e] at h
  have h1 := mul_lt a b ha hb (i + 1)
  rw [show i + 1 + b.length = i + (b.length + 1) by omega] at h1
  rcases Nat.eq_zero_or_pos c with rfl | hc
  · rw [Nat.mul_zero, Nat.add_zero] at h; exact h
  · exfalso
    have : B ^ (i + (b.length + 1)) * 1 ≤ B ^ (i + (b.length + 1)) * c := Nat.mul_le_mul_left _ hc
    omega

theorem rmul_eq (n d : Nat) (b b' : Gk) (l m : List Nat) (hl : Limbs l) (hm : Limbs m) (hn : l.length + m.length + 3 < n) (hll : l.length ≤ 100000) (hml : m.length ≤ 100000) :
    evalFn Tryd.prog cfg0 n (d+2) 75 [.tree (encL b l), .tree (encL b' m)] = some (.tree (encF (val l * val m)), [[], []]) := by
  rw [evalFn_go _ Tryd.func75 (by unfold Tryd.f75; rfl) (by unfold Tryd.f75; decide) (Nat.le_of_ble_eq_true (by unfold Tryd.f75; rfl)) (by kernel_rfl)]
  have e1 := i_add Tryd.prog 3 (l.length : Int) (m.length : Int) (by omega) (by omega)
  have e1' := i_add Tryd.prog 3 ((l.length : Int) + (m.length : Int)) 1 (by omega) (by omega)
  have e2 := make22 15 dead ((l.length : Int) + (m.length : Int) + 1) (by omega) (by omega)
  rw [show ((l.length : Int) + (m.length : Int) + 1).toNat = l.length + m.length + 1 by omega] at e2
  have e3 : (dead 15).t + 1 = 1 := rfl
  simp only [zaa, zab, zac, zad, zae, zaf, zag, zah, zai, zaj, zak, zal, zam, zan, zao, zap, zaq, zar, zas, zat, zau, zav, zaw, zax, zay, zaz, zba, zbb, zbc, zbd, zbe, zbf, zbg, zbh, zbi, zbj, Nat.reduceBEq, Bool.or_self, Bool.or_false, Bool.or_true, Bool.and_true, Bool.and_false, Bool.true_and, Bool.false_and, Option.isNone_none, Option.isNone_some, Option.isSome_some, Option.isSome_none, zbk, zbl, zbm, zbn, zbo, zbp, zbq, zbr, zbs, zbt, zbu, zbv, zbw, zbx, zby, zbz, zca, zcb, zcc, zcd, zce, zcf, zcg, zch, zci, zcj, zck, zcl, zcm, zcn, zco, zcp, zcq, zcr, zcs, zct, zcu, zcv, zcw, zcx, zcy, zcz, zda, zdb, zdc, zdd, zde, zdf, Option.getD_some, Option.getD_none, zet, zeu, zev, zew, zex, zey, zez, zfa, Option.map_some, Option.map_none, Option.bind_some, List.map_cons, List.map_nil, List.cons_append, List.nil_append, ↓reduceIte, Nat.reduceEqDiff, Nat.reduceAdd, decide_true, decide_false, Bool.true_eq_false, Bool.false_eq_true, env0, List.getElem?_cons_zero, List.getElem?_cons_succ, zdg, zdh, zdi, zdj, zdk, zdl, zdm, zdn, ia22, ld31, zdo, zdp, st0_2, e1, e1', e2, e3, den_loop]
  refine loop_ends (X := Nat × List Nat) (fun x env s => env 0 = encL b l ∧ env 1 = encL b' m ∧ env 5 = .own 15 1 0 (l.length + m.length + 1) 1 ∧ env 6 = .int .i64 (x.1 : Int) ∧ s 15 = ⟨1, .buf (encC x.2)⟩ ∧ x.1 ≤ l.length ∧ x.2.length = l.length + m.length + 1 ∧ Limbs x.2 ∧ val x.2 = val (l.take x.1) * val m) (fun x => l.length - x.1) (fun _ => (.tree (encF (val l * val m)), [[], []])) ?_ n (0, List.replicate (l.length + m.length + 1) 0) _ _ (by simp only; omega) ⟨rfl, rfl, rfl, rfl, rfl, by simp, by simp, ?_, by simp [val, val_rep]⟩
  rotate_left
  · intro x hx; rw [List.eq_of_mem_replicate hx]; decide
  intro k' ⟨i, o⟩ hx ih env s ⟨h0, h1, h5, h6, hs, hi, hol, hoL, hv⟩
  simp only at h0 h1 h5 h6 hs hi hol hoL hv hx
  by_cases hp : i = l.length
  · subst hp
    have q1 : ¬ ((l.length : Int) < (l.length : Int)) := by omega
    obtain ⟨s9, e9⟩ := rnorm_hold n d s (.own 15 1 0 (l.length + m.length + 1) 1) o (.inr (.inr ⟨15, 1, by rw [hol], hs⟩)) hoL (by omega) (by omega) 55
    simp only [zaa, zab, zac, zad, zae, zaf, zag, zah, zai, zaj, zak, zal, zam, zan, zao, zap, zaq, zar, zas, zat, zau, zav, zaw, zax, zay, zaz, zba, zbb, zbc, zbd, zbe, zbf, zbg, zbh, zbi, zbj, Nat.reduceBEq, Bool.or_self, Bool.or_false, Bool.or_true, Bool.and_true, Bool.and_false, Bool.true_and, Bool.false_and, Option.isNone_none, Option.isNone_some, Option.isSome_some, Option.isSome_none, zbk, zbl, zbm, zbn, zbo, zbp, zbq, zbr, zbs, zbt, zbu, zbv, zbw, zbx, zby, zbz, zca, zcb, zcc, zcd, zce, zcf, zcg, zch, zci, zcj, zck, zcl, zcm, zcn, zco, zcp, zcq, zcr, zcs, zct, zcu, zcv, zcw, zcx, zcy, zcz, zda, zdb, zdc, zdd, zde, zdf, Option.getD_some, Option.getD_none, zet, zeu, zev, zew, zex, zey, zez, zfa, Option.map_some, Option.map_none, Option.bind_some, List.map_cons, List.map_nil, List.cons_append, List.nil_append, ↓reduceIte, Nat.reduceEqDiff, Nat.reduceAdd, decide_true, decide_false, Bool.true_eq_false, Bool.false_eq_true, zdg, zdh, zdi, zdj, zdk, zdl, zdm, zdn, ia22, ld31, zdo, zdp, h0, h1, h5, h6, q1, e9]
    rw [hv, List.take_length]
    exact finish_F _ _ _ _ _ _ _ (by simp only [zfa, ↓reduceIte]) rfl
  have q1 : (i : Int) < (l.length : Int) := by omega
  have hx1 := getD_lt l hl i
  have f4 := i_add Tryd.prog 3 (i : Int) 1 (by omega) (by omega)
  have c1 := rat_callq n d b l hl i
  obtain ⟨x, hxe⟩ : ∃ x, x = l.getD i 0 := ⟨_, rfl⟩
  rw [← hxe] at hx1 c1
  simp only [zaa, zab, zac, zad, zae, zaf, zag, zah, zai, zaj, zak, zal, zam, zan, zao, zap, zaq, zar, zas, zat, zau, zav, zaw, zax, zay, zaz, zba, zbb, zbc, zbd, zbe, zbf, zbg, zbh, zbi, zbj, Nat.reduceBEq, Bool.or_self, Bool.or_false, Bool.or_true, Bool.and_true, Bool.and_false, Bool.true_and, Bool.false_and, Option.isNone_none, Option.isNone_some, Option.isSome_some, Option.isSome_none, zbk, zbl, zbm, zbn, zbo, zbp, zbq, zbr, zbs, zbt, zbu, zbv, zbw, zbx, zby, zbz, zca, zcb, zcc, zcd, zce, zcf, zcg, zch, zci, zcj, zck, zcl, zcm, zcn, zco, zcp, zcq, zcr, zcs, zct, zcu, zcv, zcw, zcx, zcy, zcz, zda, zdb, zdc, zdd, zde, zdf, Option.getD_some, Option.getD_none, zet, zeu, zev, zew, zex, zey, zez, zfa, Option.map_some, Option.map_none, Option.bind_some, List.map_cons, List.map_nil, List.cons_append, List.nil_append, ↓reduceIte, Nat.reduceEqDiff, Nat.reduceAdd, decide_true, decide_false, Bool.true_eq_false, Bool.false_eq_true, zdg, zdh, zdi, zdj, zdk, zdl, zdm, zdn, ia22, ld31, zdo, zdp, h0, h1, h5, h6, q1, den_loop]
  refine loop_ends (X := Nat × Nat × List Nat) (fun y env s => env 0 = encL b l ∧ env 1 = encL b' m ∧ env 5 = .own 15 1 0 (l.length + m.length + 1) 1 ∧ env 6 = .int .i64 (i : Int) ∧ env 8 = .int .i64 (y.1 : Int) ∧ env 7 = .int .u64 (y.2.1 : Int) ∧ s 15 = ⟨1, .buf (encC y.2.2)⟩ ∧ y.1 ≤ m.length + 1 ∧ y.2.1 < 4294967296 ∧ y.2.2.length = l.length + m.length + 1 ∧ Limbs y.2.2 ∧ val y.2.2 + B ^ (i + y.1) * y.2.1 = val o + B ^ i * (x * val (m.take y.1))) (fun y => m.length + 1 - y.1) (fun _ => (.tree (encF (val l * val m)), [[], []])) ?_ n (0, 0, o) _ _ (by simp only; omega) ⟨?_, ?_, ?_, ?_, rfl, rfl, hs, by simp, by simp, hol, hoL, by simp [val]⟩
  rotate_left
  · simp only [zfa, ↓reduceIte, Nat.reduceEqDiff, h0]
  · simp only [zfa, ↓reduceIte, Nat.reduceEqDiff, h1]
  · simp only [zfa, ↓reduceIte, Nat.reduceEqDiff, h5]
  · simp only [zfa, ↓reduceIte, Nat.reduceEqDiff, h6]
  clear h0 h1 h5 h6 hs
  intro k2 ⟨k, c, o'⟩ hx' ih' env s ⟨h0, h1, h5, h6, h8, h7, hs, hk, hc, hol', hoL', hv'⟩
  simp only at h0 h1 h5 h6 h8 h7 hs hk hc hol' hoL' hv' hx'
  by_cases hp' : k = m.length + 1
  · subst hp'
    have r1 : ¬ (((m.length + 1 : Nat) : Int) ≤ (m.length : Int)) := by omega
    simp only [zaa, zab, zac, zad, zae, zaf, zag, zah, zai, zaj, zak, zal, zam, zan, zao, zap, zaq, zar, zas, zat, zau, zav, zaw, zax, zay, zaz, zba, zbb, zbc, zbd, zbe, zbf, zbg, zbh, zbi, zbj, Nat.reduceBEq, Bool.or_self, Bool.or_false, Bool.or_true, Bool.and_true, Bool.and_false, Bool.true_and, Bool.false_and, Option.isNone_none, Option.isNone_some, Option.isSome_some, Option.isSome_none, zbk, zbl, zbm, zbn, zbo, zbp, zbq, zbr, zbs, zbt, zbu, zbv, zbw, zbx, zby, zbz, zca, zcb, zcc, zcd, zce, zcf, zcg, zch, zci, zcj, zck, zcl, zcm, zcn, zco, zcp, zcq, zcr, zcs, zct, zcu, zcv, zcw, zcx, zcy, zcz, zda, zdb, zdc, zdd, zde, zdf, Option.getD_some, Option.getD_none, zet, zeu, zev, zew, zex, zey, zez, zfa, Option.map_some, Option.map_none, Option.bind_some, List.map_cons, List.map_nil, List.cons_append, List.nil_append, ↓reduceIte, Nat.reduceEqDiff, Nat.reduceAdd, decide_true, decide_false, Bool.true_eq_false, Bool.false_eq_true, zdg, zdh, zdi, zdj, zdk, zdl, zdm, zdn, ia22, ld31, zdo, zdp, h0, h1, h5, h6, h8, h7, r1, f4]
    refine ih (i + 1, o') _ _ (by simp only; omega) rfl ⟨?_, ?_, ?_, ?_, hs, ?_, hol', hoL', ?_⟩
    · simp only [zfa, ↓reduceIte, Nat.reduceEqDiff, h0]
    · simp only [zfa, ↓reduceIte, Nat.reduceEqDiff, h1]
    · simp only [zfa, ↓reduceIte, Nat.reduceEqDiff, h5]
    · simp only [zfa, ↓reduceIte, Nat.reduceEqDiff]; rfl
    · simp only; omega
    · exact rmul_end l m o o' hl hm i c x hxe hv hv'
  · have r1 : (k : Int) ≤ (m.length : Int) := by omega
    have hy1 := getD_lt m hm k
    have hw1 := getD_lt o' hoL' (i + k)
    have hst := mul_step l m o o' i k c x (by omega) hv'
    obtain ⟨b1, b2, b3⟩ := mul_big x (m.getD k 0) c (o'.getD (i + k) 0) hx1 hy1 hc hw1
    have f5 := i_add Tryd.prog 3 (i : Int) (k : Int) (by omega) (by omega)
    have f6 := i_add Tryd.prog 3 (k : Int) 1 (by omega) (by omega)
    have g1 := ia_own s 15 1 _ (l.length + m.length + 1) .i64 ((i : Int) + (k : Int)) hs (by omega) (by omega)
    rw [show ((i : Int) + (k : Int)).toNat = i + k by omega] at g1
    have g3 := ld_own s 15 1 o' (i + k) hs (by omega)
    have g4 := zdo s (o'.getD (i + k) 0) hw1
    have c2 := rat_callq n d b' m hm k
    have u1 := u_mul Tryd.prog 111 x (m.getD k 0)
    rw [Nat.mod_eq_of_lt b1] at u1
    have u2 := u_add Tryd.prog 111 c (o'.getD (i + k) 0)
    rw [Nat.mod_eq_of_lt (by omega)] at u2
    have u3 := u_add Tryd.prog 111 (c + o'.getD (i + k) 0) (x * m.getD k 0)
    rw [Nat.mod_eq_of_lt (by omega), show c + o'.getD (i + k) 0 + x * m.getD k 0 = c + (x * m.getD k 0 + o'.getD (i + k) 0) by omega] at u3
    generalize c + (x * m.getD k 0 + o'.getD (i + k) 0) = S at *
    have u4 := u_shr Tryd.prog 111 S .u64 32 (by decide) (by decide)
    rw [show (2 : Nat) ^ (32 : Int).toNat = 4294967296 from rfl] at u4
    have g2 := st31 s 15 1 _ (i + k) (S % 4294967296) hs (by omega)
    simp only [zaa, zab, zac, zad, zae, zaf, zag, zah, zai, zaj, zak, zal, zam, zan, zao, zap, zaq, zar, zas, zat, zau, zav, zaw, zax, zay, zaz, zba, zbb, zbc, zbd, zbe, zbf, zbg, zbh, zbi, zbj, Nat.reduceBEq, Bool.or_self, Bool.or_false, Bool.or_true, Bool.and_true, Bool.and_false, Bool.true_and, Bool.false_and, Option.isNone_none, Option.isNone_some, Option.isSome_some, Option.isSome_none, zbk, zbl, zbm, zbn, zbo, zbp, zbq, zbr, zbs, zbt, zbu, zbv, zbw, zbx, zby, zbz, zca, zcb, zcc, zcd, zce, zcf, zcg, zch, zci, zcj, zck, zcl, zcm, zcn, zco, zcp, zcq, zcr, zcs, zct, zcu, zcv, zcw, zcx, zcy, zcz, zda, zdb, zdc, zdd, zde, zdf, Option.getD_some, Option.getD_none, zet, zeu, zev, zew, zex, zey, zez, zfa, Option.map_some, Option.map_none, Option.bind_some, List.map_cons, List.map_nil, List.cons_append, List.nil_append, ↓reduceIte, Nat.reduceEqDiff, Nat.reduceAdd, decide_true, decide_false, Bool.true_eq_false, Bool.false_eq_true, zdg, zdh, zdi, zdj, zdk, zdl, zdm, zdn, ia22, ld31, zdo, zdp, h0, h1, h5, h6, h8, h7, r1, f5, f6, g1, g2, g3, g4, c1, c2, u1, u2, u3, u4]
    refine ih' (k + 1, S / 4294967296, o'.set (i + k) (S % 4294967296)) _ _ (by simp only; omega) rfl ⟨?_, ?_, ?_, ?_, ?_, ?_, ?_, ?_, ?_, ?_, ?_, ?_⟩
    · simp only [zfa, ↓reduceIte, Nat.reduceEqDiff, h0]
    · simp only [zfa, ↓reduceIte, Nat.reduceEqDiff, h1]
    · simp only [zfa, ↓reduceIte, Nat.reduceEqDiff, h5]
    · simp only [zfa, ↓reduceIte, Nat.reduceEqDiff, h6]
    · simp only [zfa, ↓reduceIte, Nat.reduceEqDiff]; rfl
    · simp only [zfa, ↓reduceIte, Nat.reduceEqDiff]
    · rw [upd_self]
    · simp only; omega
    · simp only; omega
    · simp only [List.length_set]; exact hol'
    · exact limbs_set _ hoL' _ _ (Nat.mod_lt _ (by decide))
    · exact hst
end Go.Ab

/- The reference's Shr. Conditions: limbs in range, not too many. -/
namespace Go.Ab
open Go.Proofs
set_option maxRecDepth 100000
set_option linter.unusedSimpArgs false

theorem tk42 : tkOf Tryd.prog 64 = .int .u64 := by kernel_rfl
theorem conv3_42 (s : St) (x : Nat) (h : x < 4294967296) : convA Tryd.prog 3 64 s (.int .i64 (x : Int)) = some (.int .u64 (x : Int)) := by
  simp only [convA, tk3, tk42]
  rw [u64_wrap, Nat.mod_eq_of_lt (by omega)]
theorem getD_drop (l : List Nat) (w i : Nat) : (l.drop w).getD i 0 = l.getD (w + i) 0 := by
  rw [List.getD_eq_getElem?_getD, List.getD_eq_getElem?_getD, List.getElem?_drop]
theorem take_next (L : List Nat) (i : Nat) (h : i < L.length) : L.take (i + 1) = L.take i ++ [L.getD i 0] := by
  rw [List.take_succ_eq_append_getElem h, List.getD_eq_getElem?_getD, List.getElem?_eq_getElem h]; rfl
theorem rshr_eq (n d : Nat) (b : Gk) (l : List Nat) (z : Int) (hl : Limbs l) (hn : l.length + 2 < n) (hll : l.length ≤ 100000) (hz : z ≤ 9223372036854775807) :
    evalFn Tryd.prog cfg0 n (d+2) 106 [.tree (encL b l), .tree (.int .i64 z)] = some (.tree (encF (val l / 2 ^ z.toNat)), [[], []]) := by
  rw [evalFn_go _ Tryd.func106 (by unfold Tryd.f106; rfl) (by unfold Tryd.f106; decide) (Nat.le_of_ble_eq_true (by unfold Tryd.f106; rfl)) (by kernel_rfl)]
  have a2 : foldA max2A (.int .i64 z) [.int .i64 0] = some (.int .i64 ((z.toNat : Nat) : Int)) := by
    simp only [foldA, max2A, Option.bind_some]
    congr 2
    split <;> omega
  have hk : z.toNat ≤ 9223372036854775807 := by omega
  generalize z.toNat = k at *
  have e1 := i_quo Tryd.prog 3 k 32 (by decide) hk
  have e2 := i_rem Tryd.prog 3 k 32 (by decide)
  rw [show ((32 : Nat) : Int) = 32 from rfl] at e1 e2
  have hend := shr_end l hl k
  have hr : k % 32 < 32 := by omega
  have hwk : k / 32 ≤ 9223372036854775807 / 32 := Nat.div_le_div_right hk
  generalize k / 32 = w at *
  generalize k % 32 = r at *
  have e9 := conv3_42 dead r (by omega)
  have e10 : ∀ s, convA Tryd.prog 3 64 s (.int .i64 (r : Int)) = some (.int .u64 (r : Int)) := fun s => conv3_42 s r (by omega)
  have hLl := shrL_len r (l.drop w)
  rw [List.length_drop] at hLl
  have hLL := shrL_limbs r (l.drop w)
  have hget := shrL_get r (l.drop w)
  obtain ⟨L, hL⟩ : ∃ L, L = shrL r (l.drop w) := ⟨_, rfl⟩
  rw [← hL] at hend hLl hLL hget
  simp only [zaa, zab, zac, zad, zae, zaf, zag, zah, zai, zaj, zak, zal, zam, zan, zao, zap, zaq, zar, zas, zat, zau, zav, zaw, zax, zay, zaz, zba, zbb, zbc, zbd, zbe, zbf, zbg, zbh, zbi, zbj, Nat.reduceBEq, Bool.or_self, Bool.or_false, Bool.or_true, Bool.and_true, Bool.and_false, Bool.true_and, Bool.false_and, Option.isNone_none, Option.isNone_some, Option.isSome_some, Option.isSome_none, zbk, zbl, zbm, zbn, zbo, zbp, zbq, zbr, zbs, zbt, zbu, zbv, zbw, zbx, zby, zbz, zca, zcb, zcc, zcd, zce, zcf, zcg, zch, zci, zcj, zck, zcl, zcm, zcn, zco, zcp, zcq, zcr, zcs, zct, zcu, zcv, zcw, zcx, zcy, zcz, zda, zdb, zdc, zdd, zde, zdf, Option.getD_some, Option.getD_none, zet, zeu, zev, zew, zex, zey, zez, zfa, Option.map_some, Option.map_none, Option.bind_some, List.map_cons, List.map_nil, List.cons_append, List.nil_append, ↓reduceIte, Nat.reduceEqDiff, Nat.reduceAdd, decide_true, decide_false, Bool.true_eq_false, Bool.false_eq_true, env0, List.getElem?_cons_zero, List.getElem?_cons_succ, zdg, zdh, zdi, zdj, zdk, zdl, zdm, zdn, ia22, ld31, zdo, zdp, st0_2, a2, e1, den_loop]
  refine loop_ends (X := Nat) (fun i env s => env 5 = .int .i64 (k : Int) ∧ env 0 = encL b l ∧ env 7 = .int .i64 ((w + i : Nat) : Int) ∧ Hold s (env 6) (L.take i) ∧ i ≤ L.length) (fun i => L.length - i) (fun _ => (.tree (encF (val l / 2 ^ k)), [[], []])) ?_ n 0 _ _ (by omega) ⟨rfl, rfl, rfl, hold_nil _, Nat.zero_le _⟩
  intro k' i hx ih env s ⟨h5, h0, h7, h6, hi⟩
  by_cases hp : i = L.length
  · subst hp
    have q1 : ¬ (((w + L.length : Nat) : Int) < (l.length : Int)) := by omega
    rw [List.take_length] at h6
    obtain ⟨s9, e9⟩ := rnorm_hold n d s (env 6) L h6 hLL (by omega) (by omega) 38
    simp only [zaa, zab, zac, zad, zae, zaf, zag, zah, zai, zaj, zak, zal, zam, zan, zao, zap, zaq, zar, zas, zat, zau, zav, zaw, zax, zay, zaz, zba, zbb, zbc, zbd, zbe, zbf, zbg, zbh, zbi, zbj, Nat.reduceBEq, Bool.or_self, Bool.or_false, Bool.or_true, Bool.and_true, Bool.and_false, Bool.true_and, Bool.false_and, Option.isNone_none, Option.isNone_some, Option.isSome_some, Option.isSome_none, zbk, zbl, zbm, zbn, zbo, zbp, zbq, zbr, zbs, zbt, zbu, zbv, zbw, zbx, zby, zbz, zca, zcb, zcc, zcd, zce, zcf, zcg, zch, zci, zcj, zck, zcl, zcm, zcn, zco, zcp, zcq, zcr, zcs, zct, zcu, zcv, zcw, zcx, zcy, zcz, zda, zdb, zdc, zdd, zde, zdf, Option.getD_some, Option.getD_none, zet, zeu, zev, zew, zex, zey, zez, zfa, Option.map_some, Option.map_none, Option.bind_some, List.map_cons, List.map_nil, List.cons_append, List.nil_append, ↓reduceIte, Nat.reduceEqDiff, Nat.reduceAdd, decide_true, decide_false, Bool.true_eq_false, Bool.false_eq_true, zdg, zdh, zdi, zdj, zdk, zdl, zdm, zdn, ia22, ld31, zdo, zdp, h5, h0, h7, q1, e9]
    rw [hend]
    exact finish_F _ _ _ _ _ _ _ (by simp only [zfa, ↓reduceIte]) rfl
  · have q1 : ((w + i : Nat) : Int) < (l.length : Int) := by omega
    have hx1 := getD_lt l hl (w + i)
    have hx2 := getD_lt l hl (w + i + 1)
    have hg := hget i (by rw [List.length_drop]; omega)
    rw [getD_drop, getD_drop, show w + (i + 1) = w + i + 1 by omega] at hg
    have c1 := rat_call n d b l hl (w + i)
    have c2 := rat_call n d b l hl (w + i + 1)
    have f4 := i_add Tryd.prog 3 ((w + i : Nat) : Int) 1 (by omega) (by omega)
    rw [show ((w + i + 1 : Nat) : Int) = ((w + i : Nat) : Int) + 1 by omega] at c2
    have f1 := u_shl Tryd.prog 111 (l.getD (w + i + 1) 0) .u64 32 (by decide) (by decide)
    rw [show (2 : Nat) ^ (32 : Int).toNat = 4294967296 from rfl, Nat.mod_eq_of_lt (by omega)] at f1
    have f2 := u_or Tryd.prog 111 (l.getD (w + i) 0) (l.getD (w + i + 1) 0 * 4294967296) (by omega) (by omega)
    rw [show (4294967296 : Nat) = 2 ^ 32 from rfl, shl_or _ _ 32 (by omega), show (2 : Nat) ^ 32 = 4294967296 from rfl, Nat.mul_comm] at f2
    rw [Nat.mul_comm] at f1
    have f3 := u_shr Tryd.prog 111 (l.getD (w + i) 0 + 4294967296 * l.getD (w + i + 1) 0) .u64 (r : Int) (by omega) (by omega)
    rw [Int.toNat_natCast] at f3
    obtain ⟨v', s', ea, hh⟩ := append22 36 s (env 6) (L.take i) [(l.getD (w + i) 0 + 4294967296 * l.getD (w + i + 1) 0) / 2 ^ r % 4294967296] .t h6 (by simp only [List.length_cons, List.length_nil, List.length_take]; omega)
    rw [← hg, ← take_next L i (by omega)] at hh
    rw [show encL .t [(l.getD (w + i) 0 + 4294967296 * l.getD (w + i + 1) 0) / 2 ^ r % 4294967296] = .sl [.int .u32 (((l.getD (w + i) 0 + 4294967296 * l.getD (w + i + 1) 0) / 2 ^ r % 4294967296 : Nat) : Int)] 1 .tight from rfl] at ea
    simp only [zaa, zab, zac, zad, zae, zaf, zag, zah, zai, zaj, zak, zal, zam, zan, zao, zap, zaq, zar, zas, zat, zau, zav, zaw, zax, zay, zaz, zba, zbb, zbc, zbd, zbe, zbf, zbg, zbh, zbi, zbj, Nat.reduceBEq, Bool.or_self, Bool.or_false, Bool.or_true, Bool.and_true, Bool.and_false, Bool.true_and, Bool.false_and, Option.isNone_none, Option.isNone_some, Option.isSome_some, Option.isSome_none, zbk, zbl, zbm, zbn, zbo, zbp, zbq, zbr, zbs, zbt, zbu, zbv, zbw, zbx, zby, zbz, zca, zcb, zcc, zcd, zce, zcf, zcg, zch, zci, zcj, zck, zcl, zcm, zcn, zco, zcp, zcq, zcr, zcs, zct, zcu, zcv, zcw, zcx, zcy, zcz, zda, zdb, zdc, zdd, zde, zdf, Option.getD_some, Option.getD_none, zet, zeu, zev, zew, zex, zey, zez, zfa, Option.map_some, Option.map_none, Option.bind_some, List.map_cons, List.map_nil, List.cons_append, List.nil_append, ↓reduceIte, Nat.reduceEqDiff, Nat.reduceAdd, decide_true, decide_false, Bool.true_eq_false, Bool.false_eq_true, zdg, zdh, zdi, zdj, zdk, zdl, zdm, zdn, ia22, ld31, zdo, zdp, h5, h0, h7, q1, c1, c2, e2, e10, f1, f2, f3, f4, opA_one, one22_int, ea]
    refine ih (i + 1) _ _ (by omega) rfl ⟨?_, ?_, ?_, ?_, ?_⟩
    · simp only [zfa, ↓reduceIte, Nat.reduceEqDiff, h5]
    · simp only [zfa, ↓reduceIte, Nat.reduceEqDiff, h0]
    · simp only [zfa, ↓reduceIte, Nat.reduceEqDiff]; rfl
    · simp only [zfa, ↓reduceIte, Nat.reduceEqDiff]; exact hh
    · omega
end Go.Ab

/- The reference's Len. Conditions: limbs in range, not too many. -/
namespace Go.Ab
open Go.Proofs
set_option maxRecDepth 100000
set_option linter.unusedSimpArgs false

theorem rnorm_call (n d : Nat) (b : Gk) (o : List Nat) (ho : Limbs o) (hn : o.length < n) (hl : o.length ≤ 1000000) (D : Nat) (s : St) : callA cfg0 (evalFn Tryd.prog cfg0 n (d + 1)) D s 98 [encL b o] = some (encF (val o), s) :=
  callA_L1 _ D s 98 b o _ (rnorm_eq n d b o ho hn hl)
theorem lenF (s : St) (v : Nat) : lenA Tryd.prog 23 s (encF v) = some (.int .i64 ((digs v).length : Int)) := zdg s _ _
theorem rlen_eq (n d : Nat) (b : Gk) (l : List Nat) (hl : Limbs l) (hn : 32 * l.length + 2 < n) (hlen : l.length ≤ 100000) : evalFn Tryd.prog cfg0 n (d+2) 100 [.tree (encL b l)] = some (.tree (.int .i64 ((blen (val l) : Nat) : Int)), [[]]) := by
  rw [evalFn_go _ Tryd.func100 (by unfold Tryd.f100; rfl) (by unfold Tryd.f100; decide) (Nat.le_of_ble_eq_true (by unfold Tryd.f100; rfl)) (by kernel_rfl)]
  have c1 := rnorm_call n d b l hl (by omega) (by omega)
  have hd := digs_len (val l) l.length (val_lt l hl)
  have hvd := val_digs (val l)
  have hdl := limbs_digs (val l)
  obtain ⟨m, hm⟩ : ∃ m, m = digs (val l) := ⟨_, rfl⟩
  have hF : encF (val l) = encL .l m := by rw [encF, hm]
  rw [← hm] at hd hvd hdl
  rw [hF] at c1
  have e1 := i_mul Tryd.prog 3 32 (m.length : Int) (by omega) (by omega)
  rw [show (32 : Int) * (m.length : Int) = ((32 * m.length : Nat) : Int) by omega] at e1
  simp only [zaa, zab, zac, zad, zae, zaf, zag, zah, zai, zaj, zak, zal, zam, zan, zao, zap, zaq, zar, zas, zat, zau, zav, zaw, zax, zay, zaz, zba, zbb, zbc, zbd, zbe, zbf, zbg, zbh, zbi, zbj, Nat.reduceBEq, Bool.or_self, Bool.or_false, Bool.or_true, Bool.and_true, Bool.and_false, Bool.true_and, Bool.false_and, Option.isNone_none, Option.isNone_some, Option.isSome_some, Option.isSome_none, zbk, zbl, zbm, zbn, zbo, zbp, zbq, zbr, zbs, zbt, zbu, zbv, zbw, zbx, zby, zbz, zca, zcb, zcc, zcd, zce, zcf, zcg, zch, zci, zcj, zck, zcl, zcm, zcn, zco, zcp, zcq, zcr, zcs, zct, zcu, zcv, zcw, zcx, zcy, zcz, zda, zdb, zdc, zdd, zde, zdf, Option.getD_some, Option.getD_none, zet, zeu, zev, zew, zex, zey, zez, zfa, Option.map_some, Option.map_none, Option.bind_some, List.map_cons, List.map_nil, List.cons_append, List.nil_append, ↓reduceIte, Nat.reduceEqDiff, Nat.reduceAdd, decide_true, decide_false, Bool.true_eq_false, Bool.false_eq_true, env0, List.getElem?_cons_zero, List.getElem?_cons_succ, zdg, zdh, zdi, zdj, zdk, zdl, zdm, zdn, ia22, ld31, zdo, zdp, st0_1, c1, e1, den_loop]
  refine loop_ends (X := Nat) (fun k env s => env 3 = encL .l m ∧ env 4 = .int .i64 (k : Int) ∧ s = dead ∧ k ≤ 32 * m.length ∧ val l < 2 ^ k) id (fun _ => (.tree (.int .i64 ((blen (val l) : Nat) : Int)), [[]])) ?_ n (32 * m.length) _ _ (by simp only [id]; omega) ⟨rfl, rfl, rfl, Nat.le_refl _, by rw [← hvd, ← B_pow]; exact val_lt m hdl⟩
  intro k x hx ih env s ⟨h3, h4, hs, hk, hv⟩
  subst hs
  by_cases hp : x = 0
  · subst hp
    have q1 : ¬ (((0 : Nat) : Int) > 0) := by omega
    have hv0 : val l = 0 := by rw [Nat.pow_zero] at hv; omega
    simp only [zaa, zab, zac, zad, zae, zaf, zag, zah, zai, zaj, zak, zal, zam, zan, zao, zap, zaq, zar, zas, zat, zau, zav, zaw, zax, zay, zaz, zba, zbb, zbc, zbd, zbe, zbf, zbg, zbh, zbi, zbj, Nat.reduceBEq, Bool.or_self, Bool.or_false, Bool.or_true, Bool.and_true, Bool.and_false, Bool.true_and, Bool.false_and, Option.isNone_none, Option.isNone_some, Option.isSome_some, Option.isSome_none, zbk, zbl, zbm, zbn, zbo, zbp, zbq, zbr, zbs, zbt, zbu, zbv, zbw, zbx, zby, zbz, zca, zcb, zcc, zcd, zce, zcf, zcg, zch, zci, zcj, zck, zcl, zcm, zcn, zco, zcp, zcq, zcr, zcs, zct, zcu, zcv, zcw, zcx, zcy, zcz, zda, zdb, zdc, zdd, zde, zdf, Option.getD_some, Option.getD_none, zet, zeu, zev, zew, zex, zey, zez, zfa, Option.map_some, Option.map_none, Option.bind_some, List.map_cons, List.map_nil, List.cons_append, List.nil_append, ↓reduceIte, Nat.reduceEqDiff, Nat.reduceAdd, decide_true, decide_false, Bool.true_eq_false, Bool.false_eq_true, zdg, zdh, zdi, zdj, zdk, zdl, zdm, zdn, ia22, ld31, zdo, zdp, h3, h4, q1]
    rw [hv0]
    exact finish_tree _ _ _ _ _ _ (.int .i64 ((0 : Nat) : Int)) _ _ (by simp only [zfa, ↓reduceIte]) rfl rfl
  · obtain ⟨y, rfl⟩ : ∃ y, x = y + 1 := ⟨x - 1, by omega⟩
    have p1 : ((y + 1 : Nat) : Int) > 0 := by omega
    have f1 : binA Tryd.prog .sub 3 (.int .i64 ((y + 1 : Nat) : Int)) (.int .i64 1) = some (.int .i64 (y : Int)) := by rw [i_sub _ _ _ _ (by omega) (by omega), show ((y + 1 : Nat) : Int) - 1 = (y : Int) by omega]
    have g1 := i_quo Tryd.prog 3 y 32 (by decide) (by omega)
    have g2 := i_rem Tryd.prog 3 y 32 (by decide)
    rw [show ((32 : Nat) : Int) = 32 from rfl] at g1 g2
    have p3 : ((y / 32 : Nat) : Int) < m.length := by omega
    have p4 : y / 32 < m.length := by omega
    have p7 : (0 : Int) ≤ ((y / 32 : Nat) : Int) := by omega
    have e10 : convA Tryd.prog 3 64 dead (.int .i64 ((y % 32 : Nat) : Int)) = some (.int .u64 ((y % 32 : Nat) : Int)) := conv3_42 dead _ (by omega)
    have hlw := getD_lt m hdl (y / 32)
    have g3 := s_shr Tryd.prog 50 (m.getD (y / 32) 0) .u64 ((y % 32 : Nat) : Int) (by omega) (by omega)
    rw [Int.toNat_natCast] at g3
    have g4 := s_and1 Tryd.prog 50 (m.getD (y / 32) 0 / 2 ^ (y % 32)) (Nat.lt_of_le_of_lt (Nat.div_le_self _ _) hlw)
    have hbl := bit_limb m hdl y
    rw [hvd] at hbl
    rw [hbl] at g4
    rw [pow1] at hv
    have h2p := Nat.two_pow_pos y
    have hq : val l / 2 ^ y < 2 := by rw [Nat.div_lt_iff_lt_mul h2p]; exact hv
    by_cases hz : val l / 2 ^ y % 2 = 0
    · have p5 : (((val l / 2 ^ y % 2 : Nat) : Int) == 0) = true := by rw [hz]; rfl
      simp only [zaa, zab, zac, zad, zae, zaf, zag, zah, zai, zaj, zak, zal, zam, zan, zao, zap, zaq, zar, zas, zat, zau, zav, zaw, zax, zay, zaz, zba, zbb, zbc, zbd, zbe, zbf, zbg, zbh, zbi, zbj, Nat.reduceBEq, Bool.or_self, Bool.or_false, Bool.or_true, Bool.and_true, Bool.and_false, Bool.true_and, Bool.false_and, Option.isNone_none, Option.isNone_some, Option.isSome_some, Option.isSome_none, zbk, zbl, zbm, zbn, zbo, zbp, zbq, zbr, zbs, zbt, zbu, zbv, zbw, zbx, zby, zbz, zca, zcb, zcc, zcd, zce, zcf, zcg, zch, zci, zcj, zck, zcl, zcm, zcn, zco, zcp, zcq, zcr, zcs, zct, zcu, zcv, zcw, zcx, zcy, zcz, zda, zdb, zdc, zdd, zde, zdf, Option.getD_some, Option.getD_none, zet, zeu, zev, zew, zex, zey, zez, zfa, Option.map_some, Option.map_none, Option.bind_some, List.map_cons, List.map_nil, List.cons_append, List.nil_append, ↓reduceIte, Nat.reduceEqDiff, Nat.reduceAdd, decide_true, decide_false, Bool.true_eq_false, Bool.false_eq_true, zdg, zdh, zdi, zdj, zdk, zdl, zdm, zdn, ia22, ld31, zdo, zdp, h3, h4, p1, f1, g1, g2, p7, p3, p4, Int.toNat_natCast, e10, g3, g4, p5]
      refine ih y _ _ (Nat.lt_succ_self _) rfl ⟨?_, ?_, rfl, by omega, ?_⟩
      · simp only [zfa, ↓reduceIte, Nat.reduceEqDiff, h3]
      · simp only [zfa, ↓reduceIte, Nat.reduceEqDiff]
      · have h0 : val l / 2 ^ y = 0 := by
          clear g4 hbl
          generalize val l / 2 ^ y = qq at *
          omega
        rcases Nat.lt_or_ge (val l) (2 ^ y) with h | h
        · exact h
        · have := Nat.div_pos h h2p; omega
    · have p5 : (((val l / 2 ^ y % 2 : Nat) : Int) == 0) = false := by
        rw [beq_eq_false_iff_ne]
        clear g4 hbl
        generalize val l / 2 ^ y % 2 = bit at *
        omega
      simp only [zaa, zab, zac, zad, zae, zaf, zag, zah, zai, zaj, zak, zal, zam, zan, zao, zap, zaq, zar, zas, zat, zau, zav, zaw, zax, zay, zaz, zba, zbb, zbc, zbd, zbe, zbf, zbg, zbh, zbi, zbj, Nat.reduceBEq, Bool.or_self, Bool.or_false, Bool.or_true, Bool.and_true, Bool.and_false, Bool.true_and, Bool.false_and, Option.isNone_none, Option.isNone_some, Option.isSome_some, Option.isSome_none, zbk, zbl, zbm, zbn, zbo, zbp, zbq, zbr, zbs, zbt, zbu, zbv, zbw, zbx, zby, zbz, zca, zcb, zcc, zcd, zce, zcf, zcg, zch, zci, zcj, zck, zcl, zcm, zcn, zco, zcp, zcq, zcr, zcs, zct, zcu, zcv, zcw, zcx, zcy, zcz, zda, zdb, zdc, zdd, zde, zdf, Option.getD_some, Option.getD_none, zet, zeu, zev, zew, zex, zey, zez, zfa, Option.map_some, Option.map_none, Option.bind_some, List.map_cons, List.map_nil, List.cons_append, List.nil_append, ↓reduceIte, Nat.reduceEqDiff, Nat.reduceAdd, decide_true, decide_false, Bool.true_eq_false, Bool.false_eq_true, zdg, zdh, zdi, zdj, zdk, zdl, zdm, zdn, ia22, ld31, zdo, zdp, h3, h4, p1, f1, g1, g2, p7, p3, p4, Int.toNat_natCast, e10, g3, g4, p5]
      have hge : 2 ^ y ≤ val l := by
        rcases Nat.lt_or_ge (val l) (2 ^ y) with h | h
        · rw [Nat.div_eq_of_lt h] at hz; exact absurd rfl hz
        · exact h
      rw [blen_of (val l) y hge (by rw [pow1]; exact hv)]
      exact finish_tree _ _ _ _ _ _ (.int .i64 ((y + 1 : Nat) : Int)) _ _ (by simp only [zfa, ↓reduceIte]) rfl rfl
end Go.Ab

/- The reference's Shl. Conditions: limbs in range, not too many. -/
namespace Go.Ab
open Go.Proofs
set_option maxRecDepth 100000
set_option linter.unusedSimpArgs false

theorem low_or (x c r : Nat) (hr : r < 32) (hc : c < 2 ^ r) : (c ||| x * 2 ^ r % 4294967296) = c + x * 2 ^ r % 4294967296 := by
  have e : x * 2 ^ r % 4294967296 = (x % 2 ^ (32 - r)) * 2 ^ r := by
    rw [show (4294967296 : Nat) = 2 ^ (32 - r) * 2 ^ r by rw [← Nat.pow_add, show 32 - r + r = 32 by omega], Nat.mul_mod_mul_right]
  rw [e]; exact shl_or _ _ _ hc
theorem digit_small (o : List Nat) (h : Limbs o) (j C : Nat) (hv : val o < B ^ j * C) : o.getD j 0 < C := by
  rw [← digit o h j]
  have : val o / B ^ j < C := by rw [Nat.div_lt_iff_lt_mul (Nat.pow_pos (by decide)), Nat.mul_comm]; exact hv
  exact Nat.lt_of_le_of_lt (Nat.mod_le _ _) this
theorem rshl_lt (a : List Nat) (ha : Limbs a) (w r i : Nat) : B ^ w * (2 ^ r * val (a.take i)) < B ^ (i + w) * 2 ^ r := by
  have h := val_take_lt a ha i
  rw [Nat.add_comm i w, Nat.pow_add, Nat.mul_assoc, Nat.mul_comm (B ^ i) (2 ^ r)]
  exact Nat.mul_lt_mul_of_pos_left (Nat.mul_lt_mul_of_pos_left h (Nat.two_pow_pos r)) (Nat.pow_pos (by decide))
theorem rshl_step (a o : List Nat) (w r i : Nat) (hl : i + w + 1 < o.length) (h0 : o.getD (i + w + 1) 0 = 0) (h : val o = B ^ w * (2 ^ r * val (a.take i))) :
    val ((o.set (i + w) (o.getD (i + w) 0 + a.getD i 0 * 2 ^ r % 4294967296)).set (i + w + 1) (a.getD i 0 * 2 ^ r / 4294967296)) = B ^ w * (2 ^ r * val (a.take (i + 1))) := by
  have h1 := val_set o (i + w) (o.getD (i + w) 0 + a.getD i 0 * 2 ^ r % 4294967296) (by omega)
  have h2 := val_set (o.set (i + w) (o.getD (i + w) 0 + a.getD i 0 * 2 ^ r % 4294967296)) (i + w + 1) (a.getD i 0 * 2 ^ r / 4294967296) (by rw [List.length_set]; exact hl)
  rw [getD_set_ne _ _ _ _ (by omega), h0, Nat.mul_zero, Nat.add_zero] at h2
  rw [Nat.mul_add] at h1
  rw [h2, val_take_succ']
  generalize a.getD i 0 = x at *
  have e : B ^ (i + w) * (x * 2 ^ r % 4294967296) + B ^ (i + w + 1) * (x * 2 ^ r / 4294967296) = B ^ (i + w) * (x * 2 ^ r) := by
    rw [Nat.pow_succ, Nat.mul_assoc, ← Nat.mul_add]
    have : x * 2 ^ r % 4294967296 + B * (x * 2 ^ r / 4294967296) = x * 2 ^ r := Nat.mod_add_div _ _
    rw [this]
  have e2 : B ^ w * (2 ^ r * (val (a.take i) + B ^ i * x)) = B ^ w * (2 ^ r * val (a.take i)) + B ^ (i + w) * (x * 2 ^ r) := by
    rw [Nat.mul_add, Nat.mul_add, Nat.add_comm i w, Nat.pow_add]
    congr 1
    rw [Nat.mul_assoc]
    congr 1
    rw [Nat.mul_comm (2 ^ r), Nat.mul_assoc]
  omega
theorem rshl_eq (n d : Nat) (b : Gk) (l : List Nat) (z : Int) (hl : Limbs l) (hn : l.length + 200 < n) (hll : l.length ≤ 100000) :
    evalFn Tryd.prog cfg0 n (d+2) 101 [.tree (encL b l), .tree (.int .i64 z)] = some (.tree (encF (val l * 2 ^ shn z)), [[], []]) := by
  rw [evalFn_go _ Tryd.func101 (by unfold Tryd.f101; rfl) (by unfold Tryd.f101; decide) (Nat.le_of_ble_eq_true (by unfold Tryd.f101; rfl)) (by kernel_rfl)]
  have a1 : foldA max2A (.int .i64 z) [.int .i64 0] = some (.int .i64 (if 0 > z then 0 else z)) := by
    simp only [foldA, max2A, Option.bind_some]
  have a2 : foldA min2A (.int .i64 (if 0 > z then 0 else z)) [.int .i64 4096] = some (.int .i64 ((shn z : Nat) : Int)) := by
    simp only [foldA, min2A, Option.bind_some, shn]
    congr 2
    split <;> split <;> (try split) <;> omega
  have hk : shn z ≤ 4096 := by simp only [shn]; split <;> omega
  generalize shn z = k at *
  have e1 := i_quo Tryd.prog 3 k 32 (by decide) (by omega)
  have e2 := i_rem Tryd.prog 3 k 32 (by decide)
  rw [show ((32 : Nat) : Int) = 32 from rfl] at e1 e2
  have hkw : k = 32 * (k / 32) + k % 32 := by omega
  have hw : k / 32 ≤ 128 := by omega
  have hr : k % 32 < 32 := by omega
  generalize k / 32 = w at *
  generalize k % 32 = r at *
  have e3 := i_add Tryd.prog 3 (l.length : Int) (w : Int) (by omega) (by omega)
  have e4 := i_add Tryd.prog 3 ((l.length : Int) + (w : Int)) 1 (by omega) (by omega)
  have e5 := make22 18 dead ((l.length : Int) + (w : Int) + 1) (by omega) (by omega)
  rw [show ((l.length : Int) + (w : Int) + 1).toNat = l.length + w + 1 by omega] at e5
  have e6 : (dead 18).t + 1 = 1 := rfl
  have e10 : ∀ s, convA Tryd.prog 3 64 s (.int .i64 (r : Int)) = some (.int .u64 (r : Int)) := fun s => conv3_42 s r (by omega)
  simp only [zaa, zab, zac, zad, zae, zaf, zag, zah, zai, zaj, zak, zal, zam, zan, zao, zap, zaq, zar, zas, zat, zau, zav, zaw, zax, zay, zaz, zba, zbb, zbc, zbd, zbe, zbf, zbg, zbh, zbi, zbj, Nat.reduceBEq, Bool.or_self, Bool.or_false, Bool.or_true, Bool.and_true, Bool.and_false, Bool.true_and, Bool.false_and, Option.isNone_none, Option.isNone_some, Option.isSome_some, Option.isSome_none, zbk, zbl, zbm, zbn, zbo, zbp, zbq, zbr, zbs, zbt, zbu, zbv, zbw, zbx, zby, zbz, zca, zcb, zcc, zcd, zce, zcf, zcg, zch, zci, zcj, zck, zcl, zcm, zcn, zco, zcp, zcq, zcr, zcs, zct, zcu, zcv, zcw, zcx, zcy, zcz, zda, zdb, zdc, zdd, zde, zdf, Option.getD_some, Option.getD_none, zet, zeu, zev, zew, zex, zey, zez, zfa, Option.map_some, Option.map_none, Option.bind_some, List.map_cons, List.map_nil, List.cons_append, List.nil_append, ↓reduceIte, Nat.reduceEqDiff, Nat.reduceAdd, decide_true, decide_false, Bool.true_eq_false, Bool.false_eq_true, env0, List.getElem?_cons_zero, List.getElem?_cons_succ, zdg, zdh, zdi, zdj, zdk, zdl, zdm, zdn, ia22, ld31, zdo, zdp, st0_2, a1, a2, e1, e3, e4, e5, e6, den_loop]
  refine loop_ends (X := Nat × List Nat) (fun x env s => env 0 = encL b l ∧ env 5 = .int .i64 (k : Int) ∧ env 6 = .own 18 1 0 (l.length + w + 1) 1 ∧ env 7 = .int .i64 (x.1 : Int) ∧ s 18 = ⟨1, .buf (encC x.2)⟩ ∧ x.1 ≤ l.length ∧ x.2.length = l.length + w + 1 ∧ Limbs x.2 ∧ val x.2 = B ^ w * (2 ^ r * val (l.take x.1))) (fun x => l.length - x.1) (fun _ => (.tree (encF (val l * 2 ^ k)), [[], []])) ?_ n (0, List.replicate (l.length + w + 1) 0) _ _ (by simp only; omega) ⟨rfl, rfl, rfl, rfl, rfl, by simp, by simp, ?_, by simp [val, val_rep]⟩
  rotate_left
  · intro x hx; rw [List.eq_of_mem_replicate hx]; decide
  intro k' ⟨i, o⟩ hx ih env s ⟨h0, h5, h6, h7, hs, hi, hol, hoL, hv⟩
  simp only at h0 h5 h6 h7 hs hi hol hoL hv hx
  by_cases hp : i = l.length
  · subst hp
    have q1 : ¬ ((l.length : Int) < (l.length : Int)) := by omega
    obtain ⟨s9, e9⟩ := rnorm_hold n d s (.own 18 1 0 (l.length + w + 1) 1) o (.inr (.inr ⟨18, 1, by rw [hol], hs⟩)) hoL (by omega) (by omega) 70
    have hfin : val o = val l * 2 ^ k := by
      rw [hv, List.take_length, hkw, Nat.pow_add, ← B_pow, Nat.mul_comm (val l), Nat.mul_assoc]
    simp only [zaa, zab, zac, zad, zae, zaf, zag, zah, zai, zaj, zak, zal, zam, zan, zao, zap, zaq, zar, zas, zat, zau, zav, zaw, zax, zay, zaz, zba, zbb, zbc, zbd, zbe, zbf, zbg, zbh, zbi, zbj, Nat.reduceBEq, Bool.or_self, Bool.or_false, Bool.or_true, Bool.and_true, Bool.and_false, Bool.true_and, Bool.false_and, Option.isNone_none, Option.isNone_some, Option.isSome_some, Option.isSome_none, zbk, zbl, zbm, zbn, zbo, zbp, zbq, zbr, zbs, zbt, zbu, zbv, zbw, zbx, zby, zbz, zca, zcb, zcc, zcd, zce, zcf, zcg, zch, zci, zcj, zck, zcl, zcm, zcn, zco, zcp, zcq, zcr, zcs, zct, zcu, zcv, zcw, zcx, zcy, zcz, zda, zdb, zdc, zdd, zde, zdf, Option.getD_some, Option.getD_none, zet, zeu, zev, zew, zex, zey, zez, zfa, Option.map_some, Option.map_none, Option.bind_some, List.map_cons, List.map_nil, List.cons_append, List.nil_append, ↓reduceIte, Nat.reduceEqDiff, Nat.reduceAdd, decide_true, decide_false, Bool.true_eq_false, Bool.false_eq_true, zdg, zdh, zdi, zdj, zdk, zdl, zdm, zdn, ia22, ld31, zdo, zdp, h0, h5, h6, h7, q1, e9]
    rw [hfin]
    exact finish_F _ _ _ _ _ _ _ (by simp only [zfa, ↓reduceIte]) rfl
  · have q1 : (i : Int) < (l.length : Int) := by omega
    have q2 : (0 : Int) ≤ (i : Int) := by omega
    have q3 : i < l.length := by omega
    have hx1 := getD_lt l hl i
    have hsm := digit_small o hoL (i + w) (2 ^ r) (by rw [hv]; exact rshl_lt l hl w r i)
    have hz0 : o.getD (i + w + 1) 0 = 0 := by
      refine digit_0 o hoL _ ?_
      rw [hv]
      refine Nat.lt_of_lt_of_le (rshl_lt l hl w r i) ?_
      rw [Nat.pow_succ]
      exact Nat.mul_le_mul_left _ (show 2 ^ r ≤ 2 ^ 32 from Nat.pow_le_pow_right (by decide) (by omega))
    have hst := rshl_step l o w r i (by omega) hz0 hv
    obtain ⟨hS, hC⟩ := shl_lt (l.getD i 0) 0 r hx1 hr (Nat.two_pow_pos r)
    rw [Nat.zero_add] at hS hC
    have hor := low_or (l.getD i 0) (o.getD (i + w) 0) r hr hsm
    have hlow := getD_lt o hoL (i + w)
    have f1 := u_shl Tryd.prog 111 (l.getD i 0) .u64 (r : Int) (by omega) (by omega)
    rw [Int.toNat_natCast, Nat.mod_eq_of_lt (by omega)] at f1
    generalize hgS : l.getD i 0 * 2 ^ r = S at *
    have hSB : S / 4294967296 < 4294967296 := by omega
    have f2 := s_or Tryd.prog 50 (o.getD (i + w) 0) (S % 4294967296) hlow (Nat.mod_lt _ (by decide))
    have hol2 : (o.getD (i + w) 0 ||| S % 4294967296) < 2 ^ 32 := Nat.or_lt_two_pow hlow (Nat.mod_lt _ (by decide))
    rw [hor] at f2 hol2
    have f3 := u_shr Tryd.prog 111 S .u64 32 (by decide) (by decide)
    rw [show (2 : Nat) ^ (32 : Int).toNat = 4294967296 from rfl] at f3
    have f4 := i_add Tryd.prog 3 (i : Int) 1 (by omega) (by omega)
    have f5 := i_add Tryd.prog 3 (i : Int) (w : Int) (by omega) (by omega)
    have f6 := i_add Tryd.prog 3 ((i : Int) + (w : Int)) 1 (by omega) (by omega)
    have g1 := ia_own s 18 1 _ (l.length + w + 1) .i64 ((i : Int) + (w : Int)) hs (by omega) (by omega)
    rw [show ((i : Int) + (w : Int)).toNat = i + w by omega] at g1
    have g2 := ld_own s 18 1 o (i + w) hs (by omega)
    have g3 := st31 s 18 1 _ (i + w) (o.getD (i + w) 0 + S % 4294967296) hs (by omega)
    have hs2 : (upd s 18 ⟨1, .buf (encC (o.set (i + w) (o.getD (i + w) 0 + S % 4294967296)))⟩) 18 = ⟨1, .buf (encC (o.set (i + w) (o.getD (i + w) 0 + S % 4294967296)))⟩ := upd_self _ _ _
    have g4 := ia_own _ 18 1 _ (l.length + w + 1) .i64 ((i : Int) + (w : Int) + 1) hs2 (by omega) (by omega)
    rw [show ((i : Int) + (w : Int) + 1).toNat = i + w + 1 by omega] at g4
    have g5 := ld_own _ 18 1 _ (i + w + 1) hs2 (by rw [List.length_set]; omega)
    rw [getD_set_ne _ _ _ _ (by omega), hz0] at g5
    have g6 := st31 _ 18 1 _ (i + w + 1) (S / 4294967296) hs2 (by rw [List.length_set]; omega)
    have f7 := s_or Tryd.prog 50 0 (S / 4294967296 % 4294967296) (by decide) (Nat.mod_lt _ (by decide))
    rw [Nat.zero_or, Nat.mod_eq_of_lt hSB] at f7
    simp only [zaa, zab, zac, zad, zae, zaf, zag, zah, zai, zaj, zak, zal, zam, zan, zao, zap, zaq, zar, zas, zat, zau, zav, zaw, zax, zay, zaz, zba, zbb, zbc, zbd, zbe, zbf, zbg, zbh, zbi, zbj, Nat.reduceBEq, Bool.or_self, Bool.or_false, Bool.or_true, Bool.and_true, Bool.and_false, Bool.true_and, Bool.false_and, Option.isNone_none, Option.isNone_some, Option.isSome_some, Option.isSome_none, zbk, zbl, zbm, zbn, zbo, zbp, zbq, zbr, zbs, zbt, zbu, zbv, zbw, zbx, zby, zbz, zca, zcb, zcc, zcd, zce, zcf, zcg, zch, zci, zcj, zck, zcl, zcm, zcn, zco, zcp, zcq, zcr, zcs, zct, zcu, zcv, zcw, zcx, zcy, zcz, zda, zdb, zdc, zdd, zde, zdf, Option.getD_some, Option.getD_none, zet, zeu, zev, zew, zex, zey, zez, zfa, Option.map_some, Option.map_none, Option.bind_some, List.map_cons, List.map_nil, List.cons_append, List.nil_append, ↓reduceIte, Nat.reduceEqDiff, Nat.reduceAdd, decide_true, decide_false, Bool.true_eq_false, Bool.false_eq_true, zdg, zdh, zdi, zdj, zdk, zdl, zdm, zdn, ia22, ld31, zdo, zdp, h0, h5, h6, h7, q1, q2, q3, Int.toNat_natCast, hx1, e1, e2, e10, f1, f2, f3, f4, f5, f6, g1, g2, g3, g4, g5, g6, Nat.mod_eq_of_lt hSB, f7]
    refine ih (i + 1, (o.set (i + w) (o.getD (i + w) 0 + S % 4294967296)).set (i + w + 1) (S / 4294967296)) _ _ (by simp only; omega) rfl ⟨?_, ?_, ?_, ?_, ?_, ?_, ?_, ?_, hst⟩
    · simp only [zfa, ↓reduceIte, Nat.reduceEqDiff, h0]
    · simp only [zfa, ↓reduceIte, Nat.reduceEqDiff, h5]
    · simp only [zfa, ↓reduceIte, Nat.reduceEqDiff, h6]
    · simp only [zfa, ↓reduceIte, Nat.reduceEqDiff]; rfl
    · rw [upd_self]
    · simp only; omega
    · simp only [List.length_set]; exact hol
    · exact limbs_set _ (limbs_set _ hoL _ _ hol2) _ _ hSB
end Go.Ab

/- The reference's Div. Conditions: limbs in range, not too many. -/
namespace Go.Ab
open Go.Proofs
set_option maxRecDepth 100000
set_option linter.unusedSimpArgs false

theorem num_F (v k : Nat) (hk : k ≤ 1000) (h : v < B ^ k) : Num (encF v) v := ⟨_, sh_L _ _, limbs_digs v, Nat.le_trans (digs_len v k h) hk, val_digs v⟩
section
variable (n d : Nat) (hn : 100000 ≤ n) (D : Nat) (s : St)
include hn
theorem rcNorm {w : AV} {v : Nat} (h : Num w v) : callA cfg0 (evalFn Tryd.prog cfg0 n (d+1)) D s 98 [w] = some (encF v, s) := by
  obtain ⟨l, hs, hl, hk, rfl⟩ := h
  exact callA_S1 _ D s 98 hs _ fun b => rnorm_eq n d b l hl (by omega) (by omega)
theorem rcCmp {w w' : AV} {v v' : Nat} (h : Num w v) (h' : Num w' v') : callA cfg0 (evalFn Tryd.prog cfg0 n (d+2)) D s 96 [w, w'] = some (.int .i64 (cmpZ v v'), s) := by
  obtain ⟨l, hs, hl, hk, rfl⟩ := h
  obtain ⟨l', hs', hl', hk', rfl⟩ := h'
  exact callA_S2 _ D s 96 hs hs' _ fun b b' => rcmp_eq n d b b' l l' hl hl' (by omega) (by omega) (by omega) (by omega)
theorem rcAdd {w w' : AV} {v v' : Nat} (h : Num w v) (h' : Num w' v') : callA cfg0 (evalFn Tryd.prog cfg0 n (d+2)) D s 95 [w, w'] = some (encF (v + v'), s) := by
  obtain ⟨l, hs, hl, hk, rfl⟩ := h
  obtain ⟨l', hs', hl', hk', rfl⟩ := h'
  exact callA_S2 _ _ _ _ hs hs' _ fun b b' => radd_eq n d b b' l l' hl hl' (by omega) (by omega) (by omega) (by omega)
theorem rcSub {w w' : AV} {v v' : Nat} (h : Num w v) (h' : Num w' v') : callA cfg0 (evalFn Tryd.prog cfg0 n (d+3)) D s 97 [w, w'] = some (encS v v', s) := by
  obtain ⟨l, hs, hl, hk, rfl⟩ := h
  obtain ⟨l', hs', hl', hk', rfl⟩ := h'
  exact callA_S2 _ _ _ _ hs hs' _ fun b b' => rsub_eq n d b b' l l' hl hl' (by omega) (by omega) (by omega) (by omega)
theorem rcMul {w w' : AV} {v v' : Nat} (h : Num w v) (h' : Num w' v') : callA cfg0 (evalFn Tryd.prog cfg0 n (d+2)) D s 75 [w, w'] = some (encF (v * v'), s) := by
  obtain ⟨l, hs, hl, hk, rfl⟩ := h
  obtain ⟨l', hs', hl', hk', rfl⟩ := h'
  exact callA_S2 _ _ _ _ hs hs' _ fun b b' => rmul_eq n d b b' l l' hl hl' (by omega) (by omega) (by omega)
theorem rcShl {w : AV} {v : Nat} (h : Num w v) (z : Int) : callA cfg0 (evalFn Tryd.prog cfg0 n (d+2)) D s 101 [w, .int .i64 z] = some (encF (v * 2 ^ shn z), s) := by
  obtain ⟨l, hs, hl, hk, rfl⟩ := h
  exact callA_Si _ _ _ _ hs _ _ _ fun b => rshl_eq n d b l z hl (by omega) (by omega)
theorem rcShr {w : AV} {v : Nat} (h : Num w v) (z : Int) (hz : z ≤ 9223372036854775807) : callA cfg0 (evalFn Tryd.prog cfg0 n (d+2)) D s 106 [w, .int .i64 z] = some (encF (v / 2 ^ z.toNat), s) := by
  obtain ⟨l, hs, hl, hk, rfl⟩ := h
  exact callA_Si _ _ _ _ hs _ _ _ fun b => rshr_eq n d b l z hl (by omega) (by omega) hz
theorem rcLen {w : AV} {v : Nat} (h : Num w v) : callA cfg0 (evalFn Tryd.prog cfg0 n (d+2)) D s 100 [w] = some (.int .i64 ((blen v : Nat) : Int), s) := by
  obtain ⟨l, hs, hl, hk, rfl⟩ := h
  exact callA_S1 _ D s 100 hs _ fun b => rlen_eq n d b l hl (by omega) (by omega)
end
end Go.Ab
