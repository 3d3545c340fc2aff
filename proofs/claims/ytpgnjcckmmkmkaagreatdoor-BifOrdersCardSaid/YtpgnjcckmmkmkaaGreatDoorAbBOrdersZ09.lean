/- Several texts put together: AbzC1, AbzC2, AbzC3. Conditions: as each part says. -/
import Derived.Test.YtpgnjcckmmkmkaaGreatDoorAbBOrdersZ08
import Derived.Test.YtpgnjcckmmkmkaaGreatDoorAbBOrdersZ07
/- relictref03.Cmp, walked. Conditions: terms that may be. -/
namespace Go.Ab
open Go.Proofs
set_option maxRecDepth 100000
set_option linter.unusedSimpArgs false

theorem rrk1 (d : Nat) : evalFn Tryz.prog cfg0 100000 (d+2) 45 [.tree (.int .i64 1)] = some (.tree (.int .i64 1), [[]]) := by kernel_rfl
theorem rrk2 (d : Nat) : evalFn Tryz.prog cfg0 100000 (d+2) 45 [.tree (.int .i64 2)] = some (.tree (.int .i64 2), [[]]) := by kernel_rfl
theorem rrk3 (d : Nat) : evalFn Tryz.prog cfg0 100000 (d+2) 45 [.tree (.int .i64 3)] = some (.tree (.int .i64 5), [[]]) := by kernel_rfl
theorem rrk4 (d : Nat) : evalFn Tryz.prog cfg0 100000 (d+2) 45 [.tree (.int .i64 4)] = some (.tree (.int .i64 6), [[]]) := by kernel_rfl
theorem rrk5 (d : Nat) : evalFn Tryz.prog cfg0 100000 (d+2) 45 [.tree (.int .i64 5)] = some (.tree (.int .i64 4), [[]]) := by kernel_rfl
theorem rrk6 (d : Nat) : evalFn Tryz.prog cfg0 100000 (d+2) 45 [.tree (.int .i64 6)] = some (.tree (.int .i64 7), [[]]) := by kernel_rfl
theorem rrank_eq (d : Nat) (k : Int) (h : 1 ≤ k ∧ k ≤ 6) : evalFn Tryz.prog cfg0 100000 (d+2) 45 [.tree (.int .i64 k)] = some (.tree (.int .i64 (rankI k + 1)), [[]]) := by
  have : k = 1 ∨ k = 2 ∨ k = 3 ∨ k = 4 ∨ k = 5 ∨ k = 6 := by omega
  rcases this with rfl | rfl | rfl | rfl | rfl | rfl
  · exact rrk1 d
  · exact rrk2 d
  · exact rrk3 d
  · exact rrk4 d
  · exact rrk5 d
  · exact rrk6 d
theorem rthree_eq (n d : Nat) (x y : Int) : evalFn Tryz.prog cfg0 n (d+1) 44 [.tree (.int .i64 x), .tree (.int .i64 y)] = some (.tree (.int .i64 (three x y)), [[], []]) := by
  rw [evalFn_go _ Tryz.func44 (by unfold Tryz.f44; rfl) (by unfold Tryz.f44; decide) (Nat.le_of_ble_eq_true (by unfold Tryz.f44; rfl)) (by kernel_rfl)]
  unfold three
  by_cases h : x < y
  · simp only [zaa, zab, zac, zad, zae, zaf, zag, zah, zai, zaj, zak, zal, zam, zan, zao, zap, zaq, zar, zas, zat, zau, zav, zaw, zax, zay, zaz, zba, zbb, zbc, zbd, zbe, zbf, zbg, zbh, zbi, zbj, zbk, zbl, zbm, zbn, zbo, zbp, zbq, Nat.reduceBEq, Bool.or_self, Bool.or_false, Bool.or_true, Bool.and_true, Bool.and_false, Bool.true_and, Bool.false_and, Option.isNone_none, Option.isNone_some, Option.isSome_some, Option.isSome_none, zbr, zbs, zbt, zbu, zbv, zbw, zbx, zby, zbz, zca, zcb, zcc, zcd, zce, zcf, zcg, zch, zci, zcj, zck, zcl, zcm, zcn, zco, zcp, zcq, zcr, zcs, zct, zcu, zcv, zcw, zcx, zcy, zcz, zda, zdb, zdc, zdd, zde, zdf, zdg, zdh, zdi, zdj, zdk, zdl, zdm, zdn, zdo, zdp, zdq, zdr, zds, Option.getD_some, Option.getD_none, zfg, zfh, zfi, zfj, zfk, zfl, zfm, zfn, Option.map_some, Option.map_none, Option.bind_some, List.map_cons, List.map_nil, List.cons_append, List.nil_append, ↓reduceIte, Nat.reduceEqDiff, Nat.reduceAdd, decide_true, decide_false, Bool.true_eq_false, Bool.false_eq_true, env0, List.getElem?_cons_zero, List.getElem?_cons_succ, zdt, zdu, zdv, zdw, zdx, zdy, zdz, zea, ia22, ld31, zeb, zec, h]
    exact finish_i _ _ _ _ _ _ _ (by first | (simp only [zfn, ↓reduceIte, Nat.reduceEqDiff]; done) | (simp only [zfn, ↓reduceIte, Nat.reduceEqDiff]; rfl)) rfl
  · by_cases h2 : x > y
    · have h3 : y < x := h2
      simp only [zaa, zab, zac, zad, zae, zaf, zag, zah, zai, zaj, zak, zal, zam, zan, zao, zap, zaq, zar, zas, zat, zau, zav, zaw, zax, zay, zaz, zba, zbb, zbc, zbd, zbe, zbf, zbg, zbh, zbi, zbj, zbk, zbl, zbm, zbn, zbo, zbp, zbq, Nat.reduceBEq, Bool.or_self, Bool.or_false, Bool.or_true, Bool.and_true, Bool.and_false, Bool.true_and, Bool.false_and, Option.isNone_none, Option.isNone_some, Option.isSome_some, Option.isSome_none, zbr, zbs, zbt, zbu, zbv, zbw, zbx, zby, zbz, zca, zcb, zcc, zcd, zce, zcf, zcg, zch, zci, zcj, zck, zcl, zcm, zcn, zco, zcp, zcq, zcr, zcs, zct, zcu, zcv, zcw, zcx, zcy, zcz, zda, zdb, zdc, zdd, zde, zdf, zdg, zdh, zdi, zdj, zdk, zdl, zdm, zdn, zdo, zdp, zdq, zdr, zds, Option.getD_some, Option.getD_none, zfg, zfh, zfi, zfj, zfk, zfl, zfm, zfn, Option.map_some, Option.map_none, Option.bind_some, List.map_cons, List.map_nil, List.cons_append, List.nil_append, ↓reduceIte, Nat.reduceEqDiff, Nat.reduceAdd, decide_true, decide_false, Bool.true_eq_false, Bool.false_eq_true, env0, List.getElem?_cons_zero, List.getElem?_cons_succ, zdt, zdu, zdv, zdw, zdx, zdy, zdz, zea, ia22, ld31, zeb, zec, h, h2, h3]
      exact finish_i _ _ _ _ _ _ _ (by first | (simp only [zfn, ↓reduceIte, Nat.reduceEqDiff]; done) | (simp only [zfn, ↓reduceIte, Nat.reduceEqDiff]; rfl)) rfl
    · have h3 : ¬ y < x := h2
      simp only [zaa, zab, zac, zad, zae, zaf, zag, zah, zai, zaj, zak, zal, zam, zan, zao, zap, zaq, zar, zas, zat, zau, zav, zaw, zax, zay, zaz, zba, zbb, zbc, zbd, zbe, zbf, zbg, zbh, zbi, zbj, zbk, zbl, zbm, zbn, zbo, zbp, zbq, Nat.reduceBEq, Bool.or_self, Bool.or_false, Bool.or_true, Bool.and_true, Bool.and_false, Bool.true_and, Bool.false_and, Option.isNone_none, Option.isNone_some, Option.isSome_some, Option.isSome_none, zbr, zbs, zbt, zbu, zbv, zbw, zbx, zby, zbz, zca, zcb, zcc, zcd, zce, zcf, zcg, zch, zci, zcj, zck, zcl, zcm, zcn, zco, zcp, zcq, zcr, zcs, zct, zcu, zcv, zcw, zcx, zcy, zcz, zda, zdb, zdc, zdd, zde, zdf, zdg, zdh, zdi, zdj, zdk, zdl, zdm, zdn, zdo, zdp, zdq, zdr, zds, Option.getD_some, Option.getD_none, zfg, zfh, zfi, zfj, zfk, zfl, zfm, zfn, Option.map_some, Option.map_none, Option.bind_some, List.map_cons, List.map_nil, List.cons_append, List.nil_append, ↓reduceIte, Nat.reduceEqDiff, Nat.reduceAdd, decide_true, decide_false, Bool.true_eq_false, Bool.false_eq_true, env0, List.getElem?_cons_zero, List.getElem?_cons_succ, zdt, zdu, zdv, zdw, zdx, zdy, zdz, zea, ia22, ld31, zeb, zec, h, h2, h3]
      exact finish_i _ _ _ _ _ _ _ (by first | (simp only [zfn, ↓reduceIte, Nat.reduceEqDiff]; done) | (simp only [zfn, ↓reduceIte, Nat.reduceEqDiff]; rfl)) rfl
theorem rtext3_eq (n d : Nat) (x y : List UInt8) : evalFn Tryz.prog cfg0 n (d+1) 47 [.tree (.str x), .tree (.str y)] = some (.tree (.int .i64 (strC x y)), [[], []]) := by
  rw [evalFn_go _ Tryz.func47 (by unfold Tryz.f47; rfl) (by unfold Tryz.f47; decide) (Nat.le_of_ble_eq_true (by unfold Tryz.f47; rfl)) (by kernel_rfl)]
  unfold strC
  cases h : Op.bytesLess x y with
  | true =>
    simp only [zaa, zab, zac, zad, zae, zaf, zag, zah, zai, zaj, zak, zal, zam, zan, zao, zap, zaq, zar, zas, zat, zau, zav, zaw, zax, zay, zaz, zba, zbb, zbc, zbd, zbe, zbf, zbg, zbh, zbi, zbj, zbk, zbl, zbm, zbn, zbo, zbp, zbq, Nat.reduceBEq, Bool.or_self, Bool.or_false, Bool.or_true, Bool.and_true, Bool.and_false, Bool.true_and, Bool.false_and, Option.isNone_none, Option.isNone_some, Option.isSome_some, Option.isSome_none, zbr, zbs, zbt, zbu, zbv, zbw, zbx, zby, zbz, zca, zcb, zcc, zcd, zce, zcf, zcg, zch, zci, zcj, zck, zcl, zcm, zcn, zco, zcp, zcq, zcr, zcs, zct, zcu, zcv, zcw, zcx, zcy, zcz, zda, zdb, zdc, zdd, zde, zdf, zdg, zdh, zdi, zdj, zdk, zdl, zdm, zdn, zdo, zdp, zdq, zdr, zds, Option.getD_some, Option.getD_none, zfg, zfh, zfi, zfj, zfk, zfl, zfm, zfn, Option.map_some, Option.map_none, Option.bind_some, List.map_cons, List.map_nil, List.cons_append, List.nil_append, ↓reduceIte, Nat.reduceEqDiff, Nat.reduceAdd, decide_true, decide_false, Bool.true_eq_false, Bool.false_eq_true, env0, List.getElem?_cons_zero, List.getElem?_cons_succ, zdt, zdu, zdv, zdw, zdx, zdy, zdz, zea, ia22, ld31, zeb, zec, s_lssS, h]
    exact finish_i _ _ _ _ _ _ _ (by first | (simp only [zfn, ↓reduceIte, Nat.reduceEqDiff]; done) | (simp only [zfn, ↓reduceIte, Nat.reduceEqDiff]; rfl)) rfl
  | false =>
    by_cases g : x = y
    · have g' : (x == y) = true := beq_iff_eq.mpr g
      rw [if_pos g]
      simp only [zaa, zab, zac, zad, zae, zaf, zag, zah, zai, zaj, zak, zal, zam, zan, zao, zap, zaq, zar, zas, zat, zau, zav, zaw, zax, zay, zaz, zba, zbb, zbc, zbd, zbe, zbf, zbg, zbh, zbi, zbj, zbk, zbl, zbm, zbn, zbo, zbp, zbq, Nat.reduceBEq, Bool.or_self, Bool.or_false, Bool.or_true, Bool.and_true, Bool.and_false, Bool.true_and, Bool.false_and, Option.isNone_none, Option.isNone_some, Option.isSome_some, Option.isSome_none, zbr, zbs, zbt, zbu, zbv, zbw, zbx, zby, zbz, zca, zcb, zcc, zcd, zce, zcf, zcg, zch, zci, zcj, zck, zcl, zcm, zcn, zco, zcp, zcq, zcr, zcs, zct, zcu, zcv, zcw, zcx, zcy, zcz, zda, zdb, zdc, zdd, zde, zdf, zdg, zdh, zdi, zdj, zdk, zdl, zdm, zdn, zdo, zdp, zdq, zdr, zds, Option.getD_some, Option.getD_none, zfg, zfh, zfi, zfj, zfk, zfl, zfm, zfn, Option.map_some, Option.map_none, Option.bind_some, List.map_cons, List.map_nil, List.cons_append, List.nil_append, ↓reduceIte, Nat.reduceEqDiff, Nat.reduceAdd, decide_true, decide_false, Bool.true_eq_false, Bool.false_eq_true, env0, List.getElem?_cons_zero, List.getElem?_cons_succ, zdt, zdu, zdv, zdw, zdx, zdy, zdz, zea, ia22, ld31, zeb, zec, s_lssS, s_gtrS, h, g', Bool.or_true, Bool.false_or, Bool.not_true]
      exact finish_i _ _ _ _ _ _ _ (by first | (simp only [zfn, ↓reduceIte, Nat.reduceEqDiff]; done) | (simp only [zfn, ↓reduceIte, Nat.reduceEqDiff]; rfl)) rfl
    · have g' : (x == y) = false := beq_eq_false_iff_ne.mpr g
      rw [if_neg g]
      simp only [zaa, zab, zac, zad, zae, zaf, zag, zah, zai, zaj, zak, zal, zam, zan, zao, zap, zaq, zar, zas, zat, zau, zav, zaw, zax, zay, zaz, zba, zbb, zbc, zbd, zbe, zbf, zbg, zbh, zbi, zbj, zbk, zbl, zbm, zbn, zbo, zbp, zbq, Nat.reduceBEq, Bool.or_self, Bool.or_false, Bool.or_true, Bool.and_true, Bool.and_false, Bool.true_and, Bool.false_and, Option.isNone_none, Option.isNone_some, Option.isSome_some, Option.isSome_none, zbr, zbs, zbt, zbu, zbv, zbw, zbx, zby, zbz, zca, zcb, zcc, zcd, zce, zcf, zcg, zch, zci, zcj, zck, zcl, zcm, zcn, zco, zcp, zcq, zcr, zcs, zct, zcu, zcv, zcw, zcx, zcy, zcz, zda, zdb, zdc, zdd, zde, zdf, zdg, zdh, zdi, zdj, zdk, zdl, zdm, zdn, zdo, zdp, zdq, zdr, zds, Option.getD_some, Option.getD_none, zfg, zfh, zfi, zfj, zfk, zfl, zfm, zfn, Option.map_some, Option.map_none, Option.bind_some, List.map_cons, List.map_nil, List.cons_append, List.nil_append, ↓reduceIte, Nat.reduceEqDiff, Nat.reduceAdd, decide_true, decide_false, Bool.true_eq_false, Bool.false_eq_true, env0, List.getElem?_cons_zero, List.getElem?_cons_succ, zdt, zdu, zdv, zdw, zdx, zdy, zdz, zea, ia22, ld31, zeb, zec, s_lssS, s_gtrS, h, g', Bool.or_false, Bool.false_or, Bool.not_false]
      exact finish_i _ _ _ _ _ _ _ (by first | (simp only [zfn, ↓reduceIte, Nat.reduceEqDiff]; done) | (simp only [zfn, ↓reduceIte, Nat.reduceEqDiff]; rfl)) rfl
theorem rpart_eq (n d : Nat) (t : T) (i : Nat) (u : T) (r : List T) (h : (kidsT t).drop i = u :: r) : evalFn Tryz.prog cfg0 n (d+1) 48 [.tree (encT t), .tree (.int .i64 (i : Int))] = some (.tree (encT u), [[], []]) := by
  rw [evalFn_go _ Tryz.func48 (by unfold Tryz.f48; rfl) (by unfold Tryz.f48; decide) (Nat.le_of_ble_eq_true (by unfold Tryz.f48; rfl)) (by kernel_rfl)]
  obtain ⟨k, n1, lg, l, s, i1, kg, ks⟩ := t
  simp only [kidsT] at h
  have hil : i < ks.length := by have := congrArg List.length h; simp only [List.length_drop, List.length_cons] at this; omega
  have q1 : (i : Int) < (ks.length : Int) := by omega
  have ia := fun st => ia_K st ks (gr kg) i hil
  rw [h] at ia
  have ld := fun st => ld_K st u r
  simp only [encT] at ld
  simp only [zaa, zab, zac, zad, zae, zaf, zag, zah, zai, zaj, zak, zal, zam, zan, zao, zap, zaq, zar, zas, zat, zau, zav, zaw, zax, zay, zaz, zba, zbb, zbc, zbd, zbe, zbf, zbg, zbh, zbi, zbj, zbk, zbl, zbm, zbn, zbo, zbp, zbq, Nat.reduceBEq, Bool.or_self, Bool.or_false, Bool.or_true, Bool.and_true, Bool.and_false, Bool.true_and, Bool.false_and, Option.isNone_none, Option.isNone_some, Option.isSome_some, Option.isSome_none, zbr, zbs, zbt, zbu, zbv, zbw, zbx, zby, zbz, zca, zcb, zcc, zcd, zce, zcf, zcg, zch, zci, zcj, zck, zcl, zcm, zcn, zco, zcp, zcq, zcr, zcs, zct, zcu, zcv, zcw, zcx, zcy, zcz, zda, zdb, zdc, zdd, zde, zdf, zdg, zdh, zdi, zdj, zdk, zdl, zdm, zdn, zdo, zdp, zdq, zdr, zds, Option.getD_some, Option.getD_none, zfg, zfh, zfi, zfj, zfk, zfl, zfm, zfn, Option.map_some, Option.map_none, Option.bind_some, List.map_cons, List.map_nil, List.cons_append, List.nil_append, ↓reduceIte, Nat.reduceEqDiff, Nat.reduceAdd, decide_true, decide_false, Bool.true_eq_false, Bool.false_eq_true, env0, List.getElem?_cons_zero, List.getElem?_cons_succ, zdt, zdu, zdv, zdw, zdx, zdy, zdz, zea, ia22, ld31, zeb, zec, zed, zee, zef, zeg, zeh, zei, zej, zek, zel, zem, zen, zeo, zep, fa_0, fa_1, zeq, bd_0, bd_2, zer, fd_1, zes, Nat.zero_add, zeroT, encT, cellsT, faT_4, ldT_4, Nat.reduceAdd, lenTk, q1, ia, ld, st_Tt, stT_6]
  exact finish_cT _ _ _ _ _ u _ _ _ (by first | (simp only [zfn, ↓reduceIte, Nat.reduceEqDiff]; done) | (simp only [zfn, ↓reduceIte, Nat.reduceEqDiff]; rfl)) (by first | (simp only [zfn, ↓reduceIte, Nat.reduceEqDiff]; done) | (simp only [zfn, ↓reduceIte, Nat.reduceEqDiff]; rfl)) rfl
theorem three_up (a b : Int) : three (a + 1) (b + 1) = three a b := by unfold three; split <;> split <;> (try split) <;> omega
set_option maxHeartbeats 32000000 in
theorem rcmpT_eq : ∀ (d D : Nat) (a0 b0 : T), htT a0 ≤ d → d + 6 ≤ D → goodT a0 → goodT b0 →
    evalFn Tryz.prog cfg0 100000 D 19 [.tree (encT a0), .tree (encT b0)] = some (.tree (.int .i64 (cmpT a0 b0)), [[], []])
  | 0, _, a0, b0, hd, _, _, _ => by obtain ⟨k, b, lg, l, s, m, kg, ks⟩ := a0; simp only [htT] at hd; omega
  | d + 1, D, a0, b0, hd, hD, ga, gb => by
    obtain ⟨m, rfl⟩ : ∃ m, D = m + 7 := ⟨D - 7, by omega⟩
    have IH := fun a b h1 h2 h3 => rcmpT_eq d (m + 6) a b h1 (by omega) h2 h3
    rw [evalFn_go _ Tryz.func19 (by unfold Tryz.f19; rfl) (by unfold Tryz.f19; decide) (Nat.le_of_ble_eq_true (by unfold Tryz.f19; rfl)) (by kernel_rfl)]
    have ka := good_kindT ga
    have kb := good_kindT gb
    obtain ⟨k, n1, lg, l, s, i1, kg, ks⟩ := a0
    obtain ⟨k', n2, lg', l', s', i2, kg', ks'⟩ := b0
    simp only [kindT] at ka kb
    have hhk : htK ks ≤ d := by simp only [htT] at hd; omega
    have r1 := callQ_trees (f := 45) (vs := [.int .i64 k]) rfl (rrank_eq (m + 4) k ka)
    have r2 := callQ_trees (f := 45) (vs := [.int .i64 k']) rfl (rrank_eq (m + 4) k' kb)
    have r3 := callQ_trees (f := 44) (vs := [.int .i64 (rankI k + 1), .int .i64 (rankI k' + 1)]) rfl (rthree_eq 100000 (m + 5) _ _)
    rw [three_up] at r3
    have t3 := fun x y D st => callA_trees (cfg := cfg0) (d := D) (s := st) (f := 44) (vs := [.int .i64 x, .int .i64 y]) rfl (rthree_eq 100000 (m + 5) x y)
    have tx := fun D st => callA_trees (cfg := cfg0) (d := D) (s := st) (f := 47) (vs := [.str s, .str s']) rfl (rtext3_eq 100000 (m + 5) s s')
    by_cases hk : k = k'
    case neg =>
      have z : three (rankI k) (rankI k') ≠ 0 := fun e => hk (rank_inj ka kb e)
      have p1 : (three (rankI k) (rankI k') != 0) = true := by rw [bne_iff_ne]; exact z
      have hr : cmpT (.mk k n1 lg l s i1 kg ks) (.mk k' n2 lg' l' s' i2 kg' ks') = three (rankI k) (rankI k') := by
        rw [cmp_k _ _ (by simp only [kindT]; omega)]
        exact or2_n z
      rw [hr]
      simp only [zaa, zab, zac, zad, zae, zaf, zag, zah, zai, zaj, zak, zal, zam, zan, zao, zap, zaq, zar, zas, zat, zau, zav, zaw, zax, zay, zaz, zba, zbb, zbc, zbd, zbe, zbf, zbg, zbh, zbi, zbj, zbk, zbl, zbm, zbn, zbo, zbp, zbq, Nat.reduceBEq, Bool.or_self, Bool.or_false, Bool.or_true, Bool.and_true, Bool.and_false, Bool.true_and, Bool.false_and, Option.isNone_none, Option.isNone_some, Option.isSome_some, Option.isSome_none, zbr, zbs, zbt, zbu, zbv, zbw, zbx, zby, zbz, zca, zcb, zcc, zcd, zce, zcf, zcg, zch, zci, zcj, zck, zcl, zcm, zcn, zco, zcp, zcq, zcr, zcs, zct, zcu, zcv, zcw, zcx, zcy, zcz, zda, zdb, zdc, zdd, zde, zdf, zdg, zdh, zdi, zdj, zdk, zdl, zdm, zdn, zdo, zdp, zdq, zdr, zds, Option.getD_some, Option.getD_none, zfg, zfh, zfi, zfj, zfk, zfl, zfm, zfn, Option.map_some, Option.map_none, Option.bind_some, List.map_cons, List.map_nil, List.cons_append, List.nil_append, ↓reduceIte, Nat.reduceEqDiff, Nat.reduceAdd, decide_true, decide_false, Bool.true_eq_false, Bool.false_eq_true, env0, List.getElem?_cons_zero, List.getElem?_cons_succ, zdt, zdu, zdv, zdw, zdx, zdy, zdz, zea, ia22, ld31, zeb, zec, zed, zee, zef, zeg, zeh, zei, zej, zek, zel, zem, zen, zeo, zep, fa_0, fa_1, zeq, bd_0, bd_2, zer, fd_1, zes, Nat.zero_add, encT, cellsT, faT_0, ldT_0, r1, r2, r3, i_neqV, p1]
      exact finish_i _ _ _ _ _ _ _ (by first | (simp only [zfn, ↓reduceIte, Nat.reduceEqDiff]; done) | (simp only [zfn, ↓reduceIte, Nat.reduceEqDiff]; rfl)) rfl
    subst hk
    have z0 : three (rankI k) (rankI k) = 0 := by rw [three_zero]
    rw [z0] at r3
    have p1 : ((0 : Int) != 0) = false := rfl
    have go := good_own ga
    have gn : i1 = 0 ∧ True := by
      have := go.2.1
      simp only [ownT, Bool.and_eq_true, decide_eq_true_eq] at this
      exact ⟨this.2.2, trivial⟩
    obtain ⟨rfl, -⟩ := gn
    have gn : i2 = 0 ∧ True := by
      have := (good_own gb).2.1
      simp only [ownT, Bool.and_eq_true, decide_eq_true_eq] at this
      exact ⟨this.2.2, trivial⟩
    obtain ⟨rfl, -⟩ := gn
    by_cases h1 : k = 1
    · subst h1
      have cn := fun D st => callA_trees (cfg := cfg0) (d := D) (s := st) (f := 46) (vs := [encA n1 lg l, encA n2 lg' l']) (by cases lg <;> cases lg' <;> rfl) (rncmp_eq 100000 (m + 2) (Nat.le_refl _) (isN_A n1 lg l go.1) (isN_A n2 lg' l' (good_own gb).1))
      simp only [encA] at cn
      have hr : cmpT (.mk 1 n1 lg l s 0 kg ks) (.mk 1 n2 lg' l' s' 0 kg' ks') = cmpI (numZ n1 l) (numZ n2 l') := by
        first | (simp [cmpT, kindT, numT, strT, kidsT, z0, or2]; done) | (simp [cmpT, kindT, numT, strT, kidsT, z0, or2]; rfl)
      rw [hr]
      simp only [zaa, zab, zac, zad, zae, zaf, zag, zah, zai, zaj, zak, zal, zam, zan, zao, zap, zaq, zar, zas, zat, zau, zav, zaw, zax, zay, zaz, zba, zbb, zbc, zbd, zbe, zbf, zbg, zbh, zbi, zbj, zbk, zbl, zbm, zbn, zbo, zbp, zbq, Nat.reduceBEq, Bool.or_self, Bool.or_false, Bool.or_true, Bool.and_true, Bool.and_false, Bool.true_and, Bool.false_and, Option.isNone_none, Option.isNone_some, Option.isSome_some, Option.isSome_none, zbr, zbs, zbt, zbu, zbv, zbw, zbx, zby, zbz, zca, zcb, zcc, zcd, zce, zcf, zcg, zch, zci, zcj, zck, zcl, zcm, zcn, zco, zcp, zcq, zcr, zcs, zct, zcu, zcv, zcw, zcx, zcy, zcz, zda, zdb, zdc, zdd, zde, zdf, zdg, zdh, zdi, zdj, zdk, zdl, zdm, zdn, zdo, zdp, zdq, zdr, zds, Option.getD_some, Option.getD_none, zfg, zfh, zfi, zfj, zfk, zfl, zfm, zfn, Option.map_some, Option.map_none, Option.bind_some, List.map_cons, List.map_nil, List.cons_append, List.nil_append, ↓reduceIte, Nat.reduceEqDiff, Nat.reduceAdd, decide_true, decide_false, Bool.true_eq_false, Bool.false_eq_true, env0, List.getElem?_cons_zero, List.getElem?_cons_succ, zdt, zdu, zdv, zdw, zdx, zdy, zdz, zea, ia22, ld31, zeb, zec, zed, zee, zef, zeg, zeh, zei, zej, zek, zel, zem, zen, zeo, zep, fa_0, fa_1, zeq, bd_0, bd_2, zer, fd_1, zes, Nat.zero_add, encT, cellsT, faT_0, faT_1, ldT_0, ldT_1, Nat.reduceAdd, r1, r2, r3, i_neqV, i_eqlV, Int.reduceBEq, p1, cn]
      exact finish_i _ _ _ _ _ _ _ (by first | (simp only [zfn, ↓reduceIte, Nat.reduceEqDiff]; done) | (simp only [zfn, ↓reduceIte, Nat.reduceEqDiff]; rfl)) rfl
    have b1 : (k == 1) = false := beq_eq_false_iff_ne.mpr h1
    by_cases h2 : k = 2
    · subst h2
      have hr : cmpT (.mk 2 n1 lg l s 0 kg ks) (.mk 2 n2 lg' l' s' 0 kg' ks') = strC s s' := by
        first | (simp [cmpT, kindT, numT, strT, kidsT, z0, or2]; done) | (simp [cmpT, kindT, numT, strT, kidsT, z0, or2]; rfl)
      rw [hr]
      simp only [zaa, zab, zac, zad, zae, zaf, zag, zah, zai, zaj, zak, zal, zam, zan, zao, zap, zaq, zar, zas, zat, zau, zav, zaw, zax, zay, zaz, zba, zbb, zbc, zbd, zbe, zbf, zbg, zbh, zbi, zbj, zbk, zbl, zbm, zbn, zbo, zbp, zbq, Nat.reduceBEq, Bool.or_self, Bool.or_false, Bool.or_true, Bool.and_true, Bool.and_false, Bool.true_and, Bool.false_and, Option.isNone_none, Option.isNone_some, Option.isSome_some, Option.isSome_none, zbr, zbs, zbt, zbu, zbv, zbw, zbx, zby, zbz, zca, zcb, zcc, zcd, zce, zcf, zcg, zch, zci, zcj, zck, zcl, zcm, zcn, zco, zcp, zcq, zcr, zcs, zct, zcu, zcv, zcw, zcx, zcy, zcz, zda, zdb, zdc, zdd, zde, zdf, zdg, zdh, zdi, zdj, zdk, zdl, zdm, zdn, zdo, zdp, zdq, zdr, zds, Option.getD_some, Option.getD_none, zfg, zfh, zfi, zfj, zfk, zfl, zfm, zfn, Option.map_some, Option.map_none, Option.bind_some, List.map_cons, List.map_nil, List.cons_append, List.nil_append, ↓reduceIte, Nat.reduceEqDiff, Nat.reduceAdd, decide_true, decide_false, Bool.true_eq_false, Bool.false_eq_true, env0, List.getElem?_cons_zero, List.getElem?_cons_succ, zdt, zdu, zdv, zdw, zdx, zdy, zdz, zea, ia22, ld31, zeb, zec, zed, zee, zef, zeg, zeh, zei, zej, zek, zel, zem, zen, zeo, zep, fa_0, fa_1, zeq, bd_0, bd_2, zer, fd_1, zes, Nat.zero_add, encT, cellsT, faT_0, faT_2, ldT_0, ldT_2, Nat.reduceAdd, r1, r2, r3, i_neqV, i_eqlV, Int.reduceBEq, p1, tx]
      exact finish_i _ _ _ _ _ _ _ (by first | (simp only [zfn, ↓reduceIte, Nat.reduceEqDiff]; done) | (simp only [zfn, ↓reduceIte, Nat.reduceEqDiff]; rfl)) rfl
    have b2 : (k == 2) = false := beq_eq_false_iff_ne.mpr h2
    by_cases h6 : k = 6
    · subst h6
      have hr : cmpT (.mk 6 n1 lg l s 0 kg ks) (.mk 6 n2 lg' l' s' 0 kg' ks') = strC s s' := by
        first | (simp [cmpT, kindT, numT, strT, kidsT, z0, or2]; done) | (simp [cmpT, kindT, numT, strT, kidsT, z0, or2]; rfl)
      rw [hr]
      simp only [zaa, zab, zac, zad, zae, zaf, zag, zah, zai, zaj, zak, zal, zam, zan, zao, zap, zaq, zar, zas, zat, zau, zav, zaw, zax, zay, zaz, zba, zbb, zbc, zbd, zbe, zbf, zbg, zbh, zbi, zbj, zbk, zbl, zbm, zbn, zbo, zbp, zbq, Nat.reduceBEq, Bool.or_self, Bool.or_false, Bool.or_true, Bool.and_true, Bool.and_false, Bool.true_and, Bool.false_and, Option.isNone_none, Option.isNone_some, Option.isSome_some, Option.isSome_none, zbr, zbs, zbt, zbu, zbv, zbw, zbx, zby, zbz, zca, zcb, zcc, zcd, zce, zcf, zcg, zch, zci, zcj, zck, zcl, zcm, zcn, zco, zcp, zcq, zcr, zcs, zct, zcu, zcv, zcw, zcx, zcy, zcz, zda, zdb, zdc, zdd, zde, zdf, zdg, zdh, zdi, zdj, zdk, zdl, zdm, zdn, zdo, zdp, zdq, zdr, zds, Option.getD_some, Option.getD_none, zfg, zfh, zfi, zfj, zfk, zfl, zfm, zfn, Option.map_some, Option.map_none, Option.bind_some, List.map_cons, List.map_nil, List.cons_append, List.nil_append, ↓reduceIte, Nat.reduceEqDiff, Nat.reduceAdd, decide_true, decide_false, Bool.true_eq_false, Bool.false_eq_true, env0, List.getElem?_cons_zero, List.getElem?_cons_succ, zdt, zdu, zdv, zdw, zdx, zdy, zdz, zea, ia22, ld31, zeb, zec, zed, zee, zef, zeg, zeh, zei, zej, zek, zel, zem, zen, zeo, zep, fa_0, fa_1, zeq, bd_0, bd_2, zer, fd_1, zes, Nat.zero_add, encT, cellsT, faT_0, faT_2, ldT_0, ldT_2, Nat.reduceAdd, r1, r2, r3, i_neqV, i_eqlV, Int.reduceBEq, p1, tx]
      exact finish_i _ _ _ _ _ _ _ (by first | (simp only [zfn, ↓reduceIte, Nat.reduceEqDiff]; done) | (simp only [zfn, ↓reduceIte, Nat.reduceEqDiff]; rfl)) rfl
    have b6 : (k == 6) = false := beq_eq_false_iff_ne.mpr h6
    by_cases h3 : k = 3
    · subst h3
      have hr : cmpT (.mk 3 n1 lg l s 0 kg ks) (.mk 3 n2 lg' l' s' 0 kg' ks') = 0 := by
        first | (simp [cmpT, kindT, numT, strT, kidsT, z0, or2]; done) | (simp [cmpT, kindT, numT, strT, kidsT, z0, or2]; rfl)
      rw [hr]
      simp only [zaa, zab, zac, zad, zae, zaf, zag, zah, zai, zaj, zak, zal, zam, zan, zao, zap, zaq, zar, zas, zat, zau, zav, zaw, zax, zay, zaz, zba, zbb, zbc, zbd, zbe, zbf, zbg, zbh, zbi, zbj, zbk, zbl, zbm, zbn, zbo, zbp, zbq, Nat.reduceBEq, Bool.or_self, Bool.or_false, Bool.or_true, Bool.and_true, Bool.and_false, Bool.true_and, Bool.false_and, Option.isNone_none, Option.isNone_some, Option.isSome_some, Option.isSome_none, zbr, zbs, zbt, zbu, zbv, zbw, zbx, zby, zbz, zca, zcb, zcc, zcd, zce, zcf, zcg, zch, zci, zcj, zck, zcl, zcm, zcn, zco, zcp, zcq, zcr, zcs, zct, zcu, zcv, zcw, zcx, zcy, zcz, zda, zdb, zdc, zdd, zde, zdf, zdg, zdh, zdi, zdj, zdk, zdl, zdm, zdn, zdo, zdp, zdq, zdr, zds, Option.getD_some, Option.getD_none, zfg, zfh, zfi, zfj, zfk, zfl, zfm, zfn, Option.map_some, Option.map_none, Option.bind_some, List.map_cons, List.map_nil, List.cons_append, List.nil_append, ↓reduceIte, Nat.reduceEqDiff, Nat.reduceAdd, decide_true, decide_false, Bool.true_eq_false, Bool.false_eq_true, env0, List.getElem?_cons_zero, List.getElem?_cons_succ, zdt, zdu, zdv, zdw, zdx, zdy, zdz, zea, ia22, ld31, zeb, zec, zed, zee, zef, zeg, zeh, zei, zej, zek, zel, zem, zen, zeo, zep, fa_0, fa_1, zeq, bd_0, bd_2, zer, fd_1, zes, Nat.zero_add, encT, cellsT, faT_0, faT_2, ldT_0, ldT_2, Nat.reduceAdd, r1, r2, r3, i_neqV, i_eqlV, Int.reduceBEq, p1]
      exact finish_i _ _ _ _ _ _ _ (by first | (simp only [zfn, ↓reduceIte, Nat.reduceEqDiff]; done) | (simp only [zfn, ↓reduceIte, Nat.reduceEqDiff]; rfl)) rfl
    by_cases h5 : k = 5
    · subst h5
      have hl := good_tup ga
      have hr : cmpT (.mk 5 n1 lg l s 0 kg ks) (.mk 5 n2 lg' l' s' 0 kg' ks') = or2 (three ks.length ks'.length) (cmpL ks ks') := by
        first | (simp [cmpT, kindT, numT, strT, kidsT, z0, or2]; done) | (simp [cmpT, kindT, numT, strT, kidsT, z0, or2]; rfl)
      rw [hr]
      have t0 := fun D st => t3 0 0 D st
      rw [show three 0 0 = 0 from rfl] at t0
      by_cases hll : ks.length = ks'.length
      rotate_left
      · have z : three (ks.length : Int) (ks'.length : Int) ≠ 0 := fun e => hll (by rw [three_zero] at e; omega)
        have p2 : (three (ks.length : Int) (ks'.length : Int) != 0) = true := by rw [bne_iff_ne]; exact z
        rw [or2_n z]
        simp only [zaa, zab, zac, zad, zae, zaf, zag, zah, zai, zaj, zak, zal, zam, zan, zao, zap, zaq, zar, zas, zat, zau, zav, zaw, zax, zay, zaz, zba, zbb, zbc, zbd, zbe, zbf, zbg, zbh, zbi, zbj, zbk, zbl, zbm, zbn, zbo, zbp, zbq, Nat.reduceBEq, Bool.or_self, Bool.or_false, Bool.or_true, Bool.and_true, Bool.and_false, Bool.true_and, Bool.false_and, Option.isNone_none, Option.isNone_some, Option.isSome_some, Option.isSome_none, zbr, zbs, zbt, zbu, zbv, zbw, zbx, zby, zbz, zca, zcb, zcc, zcd, zce, zcf, zcg, zch, zci, zcj, zck, zcl, zcm, zcn, zco, zcp, zcq, zcr, zcs, zct, zcu, zcv, zcw, zcx, zcy, zcz, zda, zdb, zdc, zdd, zde, zdf, zdg, zdh, zdi, zdj, zdk, zdl, zdm, zdn, zdo, zdp, zdq, zdr, zds, Option.getD_some, Option.getD_none, zfg, zfh, zfi, zfj, zfk, zfl, zfm, zfn, Option.map_some, Option.map_none, Option.bind_some, List.map_cons, List.map_nil, List.cons_append, List.nil_append, ↓reduceIte, Nat.reduceEqDiff, Nat.reduceAdd, decide_true, decide_false, Bool.true_eq_false, Bool.false_eq_true, env0, List.getElem?_cons_zero, List.getElem?_cons_succ, zdt, zdu, zdv, zdw, zdx, zdy, zdz, zea, ia22, ld31, zeb, zec, zed, zee, zef, zeg, zeh, zei, zej, zek, zel, zem, zen, zeo, zep, fa_0, fa_1, zeq, bd_0, bd_2, zer, fd_1, zes, Nat.zero_add, encT, cellsT, faT_0, faT_3, faT_4, ldT_0, ldT_3, ldT_4, Nat.reduceAdd, r1, r2, r3, i_neqV, i_eqlV, Int.reduceBEq, p1, t0, lenTk, t3, p2]
        exact finish_i _ _ _ _ _ _ _ (by first | (simp only [zfn, ↓reduceIte, Nat.reduceEqDiff]; done) | (simp only [zfn, ↓reduceIte, Nat.reduceEqDiff]; rfl)) rfl
      have z : three (ks.length : Int) (ks'.length : Int) = 0 := by rw [three_zero]; omega
      rw [or2_0 z]
      have t4 := fun D st => t3 (ks.length : Int) (ks'.length : Int) D st
      rw [z] at t4
      simp only [zaa, zab, zac, zad, zae, zaf, zag, zah, zai, zaj, zak, zal, zam, zan, zao, zap, zaq, zar, zas, zat, zau, zav, zaw, zax, zay, zaz, zba, zbb, zbc, zbd, zbe, zbf, zbg, zbh, zbi, zbj, zbk, zbl, zbm, zbn, zbo, zbp, zbq, Nat.reduceBEq, Bool.or_self, Bool.or_false, Bool.or_true, Bool.and_true, Bool.and_false, Bool.true_and, Bool.false_and, Option.isNone_none, Option.isNone_some, Option.isSome_some, Option.isSome_none, zbr, zbs, zbt, zbu, zbv, zbw, zbx, zby, zbz, zca, zcb, zcc, zcd, zce, zcf, zcg, zch, zci, zcj, zck, zcl, zcm, zcn, zco, zcp, zcq, zcr, zcs, zct, zcu, zcv, zcw, zcx, zcy, zcz, zda, zdb, zdc, zdd, zde, zdf, zdg, zdh, zdi, zdj, zdk, zdl, zdm, zdn, zdo, zdp, zdq, zdr, zds, Option.getD_some, Option.getD_none, zfg, zfh, zfi, zfj, zfk, zfl, zfm, zfn, Option.map_some, Option.map_none, Option.bind_some, List.map_cons, List.map_nil, List.cons_append, List.nil_append, ↓reduceIte, Nat.reduceEqDiff, Nat.reduceAdd, decide_true, decide_false, Bool.true_eq_false, Bool.false_eq_true, env0, List.getElem?_cons_zero, List.getElem?_cons_succ, zdt, zdu, zdv, zdw, zdx, zdy, zdz, zea, ia22, ld31, zeb, zec, zed, zee, zef, zeg, zeh, zei, zej, zek, zel, zem, zen, zeo, zep, fa_0, fa_1, zeq, bd_0, bd_2, zer, fd_1, zes, Nat.zero_add, encT, cellsT, faT_0, faT_3, faT_4, ldT_0, ldT_3, ldT_4, Nat.reduceAdd, r1, r2, r3, i_neqV, i_eqlV, Int.reduceBEq, p1, t0, lenTk, t4, den_loop]
      refine loop_ends (X := Nat) (fun i env st => env 2 = .ptr 2 1 0 ∧ env 3 = .ptr 3 1 0 ∧ st 2 = ⟨1, .buf (cellsT (.mk 5 n1 lg l s 0 kg ks))⟩ ∧ st 3 = ⟨1, .buf (cellsT (.mk 5 n2 lg' l' s' 0 kg' ks'))⟩ ∧ env 9 = .int .i64 (i : Int) ∧ i ≤ ks.length ∧ cmpL (ks.drop i) (ks'.drop i) = cmpL ks ks') (fun i => ks.length - i) (fun _ => (.tree (.int .i64 (cmpL ks ks')), [[], []])) ?_ 100000 0 _ _ (by omega) ⟨(by first | (simp only [zfn, ↓reduceIte, Nat.reduceEqDiff]; done) | (simp only [zfn, ↓reduceIte, Nat.reduceEqDiff]; rfl)), (by first | (simp only [zfn, ↓reduceIte, Nat.reduceEqDiff]; done) | (simp only [zfn, ↓reduceIte, Nat.reduceEqDiff]; rfl)), (by first | (simp only [zfn, ↓reduceIte, Nat.reduceEqDiff]; done) | (simp only [zfn, ↓reduceIte, Nat.reduceEqDiff]; rfl)), (by first | (simp only [zfn, ↓reduceIte, Nat.reduceEqDiff]; done) | (simp only [zfn, ↓reduceIte, Nat.reduceEqDiff]; rfl)), (by first | (simp only [zfn, ↓reduceIte, Nat.reduceEqDiff]; done) | (simp only [zfn, ↓reduceIte, Nat.reduceEqDiff]; rfl)), Nat.zero_le _, rfl⟩
      intro rr i hx ih env st ⟨e2, e3, j2, j3, e9, hi, hc⟩
      simp only [cellsT] at j2 j3
      cases hda : ks.drop i with
      | nil =>
        have hil : i = ks.length := by have := congrArg List.length hda; simp only [List.length_drop, List.length_nil] at this; omega
        have q1 : ¬ ((i : Int) < (ks.length : Int)) := by omega
        have hdb : ks'.drop i = [] := List.drop_eq_nil_of_le (by omega)
        rw [hda, hdb] at hc
        simp only [cmpL] at hc
        rw [← hc]
        simp only [zaa, zab, zac, zad, zae, zaf, zag, zah, zai, zaj, zak, zal, zam, zan, zao, zap, zaq, zar, zas, zat, zau, zav, zaw, zax, zay, zaz, zba, zbb, zbc, zbd, zbe, zbf, zbg, zbh, zbi, zbj, zbk, zbl, zbm, zbn, zbo, zbp, zbq, Nat.reduceBEq, Bool.or_self, Bool.or_false, Bool.or_true, Bool.and_true, Bool.and_false, Bool.true_and, Bool.false_and, Option.isNone_none, Option.isNone_some, Option.isSome_some, Option.isSome_none, zbr, zbs, zbt, zbu, zbv, zbw, zbx, zby, zbz, zca, zcb, zcc, zcd, zce, zcf, zcg, zch, zci, zcj, zck, zcl, zcm, zcn, zco, zcp, zcq, zcr, zcs, zct, zcu, zcv, zcw, zcx, zcy, zcz, zda, zdb, zdc, zdd, zde, zdf, zdg, zdh, zdi, zdj, zdk, zdl, zdm, zdn, zdo, zdp, zdq, zdr, zds, Option.getD_some, Option.getD_none, zfg, zfh, zfi, zfj, zfk, zfl, zfm, zfn, Option.map_some, Option.map_none, Option.bind_some, List.map_cons, List.map_nil, List.cons_append, List.nil_append, ↓reduceIte, Nat.reduceEqDiff, Nat.reduceAdd, decide_true, decide_false, Bool.true_eq_false, Bool.false_eq_true, zdt, zdu, zdv, zdw, zdx, zdy, zdz, zea, ia22, ld31, zeb, zec, zed, zee, zef, zeg, zeh, zei, zej, zek, zel, zem, zen, zeo, zep, fa_0, fa_1, zeq, bd_0, bd_2, zer, fd_1, zes, Nat.zero_add, e2, e3, j2, j3, e9, faT_4, ldT_4, Nat.reduceAdd, lenTk, q1]
        exact finish_i _ _ _ _ _ _ _ (by first | (simp only [zfn, ↓reduceIte, Nat.reduceEqDiff]; done) | (simp only [zfn, ↓reduceIte, Nat.reduceEqDiff]; rfl)) rfl
      | cons x q =>
        have hil : i < ks.length := by have := congrArg List.length hda; simp only [List.length_drop, List.length_cons] at this; omega
        have hjl : i < ks'.length := by omega
        have q1 : (i : Int) < (ks.length : Int) := by omega
        have ia := fun st => ia_K st ks (gr kg) i hil
        rw [hda] at ia hc
        have ld := fun st => ld_K st x q
        simp only [encT] at ld
        cases hdb : ks'.drop i with
        | nil => have := congrArg List.length hdb; simp only [List.length_drop, List.length_nil] at this; omega
        | cons y r =>
          have ib := fun st => ia_K st ks' (gr kg') i hjl
          rw [hdb] at ib hc
          have ldb := fun st => ld_K st y r
          simp only [encT] at ldb
          simp only [cmpL] at hc
          have gx := goodK_at ks i x q hda (good_kidsT ga)
          have gy := goodK_at ks' i y r hdb (good_kidsT gb)
          have hx := kids_ht ks i x q hda
          have cc := callQ_trees (f := 19) (vs := [encT x, encT y]) rfl (IH x y (by omega) gx gy)
          simp only [encT] at cc
          have f5 := i_add Tryz.prog 3 (i : Int) 1 (by omega) (by omega)
          by_cases z : cmpT x y = 0
          · rw [or2_0 z] at hc
            rw [z] at cc
            simp only [zaa, zab, zac, zad, zae, zaf, zag, zah, zai, zaj, zak, zal, zam, zan, zao, zap, zaq, zar, zas, zat, zau, zav, zaw, zax, zay, zaz, zba, zbb, zbc, zbd, zbe, zbf, zbg, zbh, zbi, zbj, zbk, zbl, zbm, zbn, zbo, zbp, zbq, Nat.reduceBEq, Bool.or_self, Bool.or_false, Bool.or_true, Bool.and_true, Bool.and_false, Bool.true_and, Bool.false_and, Option.isNone_none, Option.isNone_some, Option.isSome_some, Option.isSome_none, zbr, zbs, zbt, zbu, zbv, zbw, zbx, zby, zbz, zca, zcb, zcc, zcd, zce, zcf, zcg, zch, zci, zcj, zck, zcl, zcm, zcn, zco, zcp, zcq, zcr, zcs, zct, zcu, zcv, zcw, zcx, zcy, zcz, zda, zdb, zdc, zdd, zde, zdf, zdg, zdh, zdi, zdj, zdk, zdl, zdm, zdn, zdo, zdp, zdq, zdr, zds, Option.getD_some, Option.getD_none, zfg, zfh, zfi, zfj, zfk, zfl, zfm, zfn, Option.map_some, Option.map_none, Option.bind_some, List.map_cons, List.map_nil, List.cons_append, List.nil_append, ↓reduceIte, Nat.reduceEqDiff, Nat.reduceAdd, decide_true, decide_false, Bool.true_eq_false, Bool.false_eq_true, zdt, zdu, zdv, zdw, zdx, zdy, zdz, zea, ia22, ld31, zeb, zec, zed, zee, zef, zeg, zeh, zei, zej, zek, zel, zem, zen, zeo, zep, fa_0, fa_1, zeq, bd_0, bd_2, zer, fd_1, zes, Nat.zero_add, e2, e3, j2, j3, e9, faT_4, ldT_4, Nat.reduceAdd, lenTk, q1, ia, ib, ld, ldb, cc, i_neqV, p1, f5]
            exact ih (i + 1) _ _ (by omega) rfl ⟨(by first | (simp only [zfn, ↓reduceIte, Nat.reduceEqDiff, e2]; done) | (simp only [zfn, ↓reduceIte, Nat.reduceEqDiff, e2]; rfl)), (by first | (simp only [zfn, ↓reduceIte, Nat.reduceEqDiff, e3]; done) | (simp only [zfn, ↓reduceIte, Nat.reduceEqDiff, e3]; rfl)), by simp only [cellsT]; exact j2, by simp only [cellsT]; exact j3, (by first | (simp only [zfn, ↓reduceIte, Nat.reduceEqDiff]; done) | (simp only [zfn, ↓reduceIte, Nat.reduceEqDiff]; rfl)), by omega, by rw [drop_next hda, drop_next hdb]; exact hc⟩
          · rw [or2_n z] at hc
            have p3 : (cmpT x y != 0) = true := by rw [bne_iff_ne]; exact z
            rw [← hc]
            simp only [zaa, zab, zac, zad, zae, zaf, zag, zah, zai, zaj, zak, zal, zam, zan, zao, zap, zaq, zar, zas, zat, zau, zav, zaw, zax, zay, zaz, zba, zbb, zbc, zbd, zbe, zbf, zbg, zbh, zbi, zbj, zbk, zbl, zbm, zbn, zbo, zbp, zbq, Nat.reduceBEq, Bool.or_self, Bool.or_false, Bool.or_true, Bool.and_true, Bool.and_false, Bool.true_and, Bool.false_and, Option.isNone_none, Option.isNone_some, Option.isSome_some, Option.isSome_none, zbr, zbs, zbt, zbu, zbv, zbw, zbx, zby, zbz, zca, zcb, zcc, zcd, zce, zcf, zcg, zch, zci, zcj, zck, zcl, zcm, zcn, zco, zcp, zcq, zcr, zcs, zct, zcu, zcv, zcw, zcx, zcy, zcz, zda, zdb, zdc, zdd, zde, zdf, zdg, zdh, zdi, zdj, zdk, zdl, zdm, zdn, zdo, zdp, zdq, zdr, zds, Option.getD_some, Option.getD_none, zfg, zfh, zfi, zfj, zfk, zfl, zfm, zfn, Option.map_some, Option.map_none, Option.bind_some, List.map_cons, List.map_nil, List.cons_append, List.nil_append, ↓reduceIte, Nat.reduceEqDiff, Nat.reduceAdd, decide_true, decide_false, Bool.true_eq_false, Bool.false_eq_true, zdt, zdu, zdv, zdw, zdx, zdy, zdz, zea, ia22, ld31, zeb, zec, zed, zee, zef, zeg, zeh, zei, zej, zek, zel, zem, zen, zeo, zep, fa_0, fa_1, zeq, bd_0, bd_2, zer, fd_1, zes, Nat.zero_add, e2, e3, j2, j3, e9, faT_4, ldT_4, Nat.reduceAdd, lenTk, q1, ia, ib, ld, ldb, cc, i_neqV, p3]
            exact finish_i _ _ _ _ _ _ _ (by first | (simp only [zfn, ↓reduceIte, Nat.reduceEqDiff]; done) | (simp only [zfn, ↓reduceIte, Nat.reduceEqDiff]; rfl)) rfl
    obtain rfl : k = 4 := by omega
    obtain ⟨x, y, ⟨a1, a2, a3, a4, a5, a6, e⟩, gx, gy, -⟩ := good_4 ga rfl
    obtain ⟨x', y', ⟨b1', b2', b3', b4', b5', b6', e'⟩, gx', gy', -⟩ := good_4 gb rfl
    simp only [T.mk.injEq] at e e'
    obtain ⟨-, rfl, rfl, rfl, rfl, rfl, rfl, rfl⟩ := e
    obtain ⟨-, rfl, rfl, rfl, rfl, rfl, rfl, rfl⟩ := e'
    have hr : cmpT (.mk 4 n1 lg l s 0 kg [x, y]) (.mk 4 n2 lg' l' s' 0 kg' [x', y']) = or2 (cmpT x x') (cmpT y y') := cmp_4 _ _ _ _ _ _ _ _ _ _ _ _ _ _ _ _
    rw [hr]
    have hx := kids_ht [x, y] 0 x [y] rfl
    have hy := kids_ht [x, y] 1 y [] rfl
    have ca := callQ_trees (f := 19) (vs := [encT x, encT x']) rfl (IH x x' (by omega) gx gx')
    have cb := callQ_trees (f := 19) (vs := [encT y, encT y']) rfl (IH y y' (by omega) gy gy')
    have pa0 := callQ_trees (f := 48) (vs := [encT (.mk 4 n1 lg l s 0 kg [x, y]), .int .i64 ((0 : Nat) : Int)]) rfl (rpart_eq 100000 (m + 5) (.mk 4 n1 lg l s 0 kg [x, y]) 0 x [y] rfl)
    have pa1 := callQ_trees (f := 48) (vs := [encT (.mk 4 n1 lg l s 0 kg [x, y]), .int .i64 ((1 : Nat) : Int)]) rfl (rpart_eq 100000 (m + 5) (.mk 4 n1 lg l s 0 kg [x, y]) 1 y [] rfl)
    have pb0 := callQ_trees (f := 48) (vs := [encT (.mk 4 n2 lg' l' s' 0 kg' [x', y']), .int .i64 ((0 : Nat) : Int)]) rfl (rpart_eq 100000 (m + 5) (.mk 4 n2 lg' l' s' 0 kg' [x', y']) 0 x' [y'] rfl)
    have pb1 := callQ_trees (f := 48) (vs := [encT (.mk 4 n2 lg' l' s' 0 kg' [x', y']), .int .i64 ((1 : Nat) : Int)]) rfl (rpart_eq 100000 (m + 5) (.mk 4 n2 lg' l' s' 0 kg' [x', y']) 1 y' [] rfl)
    simp only [encT] at ca cb
    simp only [encT, cellsT] at pa0 pa1 pb0 pb1
    simp only [zaa, zab, zac, zad, zae, zaf, zag, zah, zai, zaj, zak, zal, zam, zan, zao, zap, zaq, zar, zas, zat, zau, zav, zaw, zax, zay, zaz, zba, zbb, zbc, zbd, zbe, zbf, zbg, zbh, zbi, zbj, zbk, zbl, zbm, zbn, zbo, zbp, zbq, Nat.reduceBEq, Bool.or_self, Bool.or_false, Bool.or_true, Bool.and_true, Bool.and_false, Bool.true_and, Bool.false_and, Option.isNone_none, Option.isNone_some, Option.isSome_some, Option.isSome_none, zbr, zbs, zbt, zbu, zbv, zbw, zbx, zby, zbz, zca, zcb, zcc, zcd, zce, zcf, zcg, zch, zci, zcj, zck, zcl, zcm, zcn, zco, zcp, zcq, zcr, zcs, zct, zcu, zcv, zcw, zcx, zcy, zcz, zda, zdb, zdc, zdd, zde, zdf, zdg, zdh, zdi, zdj, zdk, zdl, zdm, zdn, zdo, zdp, zdq, zdr, zds, Option.getD_some, Option.getD_none, zfg, zfh, zfi, zfj, zfk, zfl, zfm, zfn, Option.map_some, Option.map_none, Option.bind_some, List.map_cons, List.map_nil, List.cons_append, List.nil_append, ↓reduceIte, Nat.reduceEqDiff, Nat.reduceAdd, decide_true, decide_false, Bool.true_eq_false, Bool.false_eq_true, env0, List.getElem?_cons_zero, List.getElem?_cons_succ, zdt, zdu, zdv, zdw, zdx, zdy, zdz, zea, ia22, ld31, zeb, zec, zed, zee, zef, zeg, zeh, zei, zej, zek, zel, zem, zen, zeo, zep, fa_0, fa_1, zeq, bd_0, bd_2, zer, fd_1, zes, Nat.zero_add, encT, cellsT, faT_0, ldT_0, Nat.reduceAdd, r1, r2, r3, i_neqV, i_eqlV, Int.reduceBEq, p1, den_loop]
    refine loop_ends (X := Nat) (fun i env st => env 2 = .ptr 2 1 0 ∧ env 3 = .ptr 3 1 0 ∧ st 2 = ⟨1, .buf (cellsT (.mk 4 n1 lg l s 0 kg [x, y]))⟩ ∧ st 3 = ⟨1, .buf (cellsT (.mk 4 n2 lg' l' s' 0 kg' [x', y']))⟩ ∧ env 11 = .int .i64 (i : Int) ∧ (i = 0 ∨ (i = 1 ∧ cmpT x x' = 0) ∨ (i = 2 ∧ cmpT x x' = 0 ∧ cmpT y y' = 0))) (fun i => 3 - i) (fun _ => (.tree (.int .i64 (or2 (cmpT x x') (cmpT y y'))), [[], []])) ?_ 100000 0 _ _ (by omega) ⟨(by first | (simp only [zfn, ↓reduceIte, Nat.reduceEqDiff]; done) | (simp only [zfn, ↓reduceIte, Nat.reduceEqDiff]; rfl)), (by first | (simp only [zfn, ↓reduceIte, Nat.reduceEqDiff]; done) | (simp only [zfn, ↓reduceIte, Nat.reduceEqDiff]; rfl)), (by first | (simp only [zfn, ↓reduceIte, Nat.reduceEqDiff]; done) | (simp only [zfn, ↓reduceIte, Nat.reduceEqDiff]; rfl)), (by first | (simp only [zfn, ↓reduceIte, Nat.reduceEqDiff]; done) | (simp only [zfn, ↓reduceIte, Nat.reduceEqDiff]; rfl)), (by first | (simp only [zfn, ↓reduceIte, Nat.reduceEqDiff]; done) | (simp only [zfn, ↓reduceIte, Nat.reduceEqDiff]; rfl)), .inl rfl⟩
    intro rr i hx ih env st ⟨e2, e3, j2, j3, e11, hc⟩
    simp only [cellsT] at j2 j3
    rcases hc with rfl | ⟨rfl, z⟩ | ⟨rfl, z, z2⟩
    · have q1 : ((0 : Nat) : Int) < 2 := by decide
      have f5 := i_add Tryz.prog 3 ((0 : Nat) : Int) 1 (by omega) (by omega)
      by_cases z : cmpT x x' = 0
      · rw [z] at ca
        simp only [zaa, zab, zac, zad, zae, zaf, zag, zah, zai, zaj, zak, zal, zam, zan, zao, zap, zaq, zar, zas, zat, zau, zav, zaw, zax, zay, zaz, zba, zbb, zbc, zbd, zbe, zbf, zbg, zbh, zbi, zbj, zbk, zbl, zbm, zbn, zbo, zbp, zbq, Nat.reduceBEq, Bool.or_self, Bool.or_false, Bool.or_true, Bool.and_true, Bool.and_false, Bool.true_and, Bool.false_and, Option.isNone_none, Option.isNone_some, Option.isSome_some, Option.isSome_none, zbr, zbs, zbt, zbu, zbv, zbw, zbx, zby, zbz, zca, zcb, zcc, zcd, zce, zcf, zcg, zch, zci, zcj, zck, zcl, zcm, zcn, zco, zcp, zcq, zcr, zcs, zct, zcu, zcv, zcw, zcx, zcy, zcz, zda, zdb, zdc, zdd, zde, zdf, zdg, zdh, zdi, zdj, zdk, zdl, zdm, zdn, zdo, zdp, zdq, zdr, zds, Option.getD_some, Option.getD_none, zfg, zfh, zfi, zfj, zfk, zfl, zfm, zfn, Option.map_some, Option.map_none, Option.bind_some, List.map_cons, List.map_nil, List.cons_append, List.nil_append, ↓reduceIte, Nat.reduceEqDiff, Nat.reduceAdd, decide_true, decide_false, Bool.true_eq_false, Bool.false_eq_true, zdt, zdu, zdv, zdw, zdx, zdy, zdz, zea, ia22, ld31, zeb, zec, zed, zee, zef, zeg, zeh, zei, zej, zek, zel, zem, zen, zeo, zep, fa_0, fa_1, zeq, bd_0, bd_2, zer, fd_1, zes, Nat.zero_add, e2, e3, j2, j3, e11, ldT_a, q1, pa0, pb0, ca, i_neqV, p1, f5]
        exact ih 1 _ _ (by omega) rfl ⟨(by first | (simp only [zfn, ↓reduceIte, Nat.reduceEqDiff, e2]; done) | (simp only [zfn, ↓reduceIte, Nat.reduceEqDiff, e2]; rfl)), (by first | (simp only [zfn, ↓reduceIte, Nat.reduceEqDiff, e3]; done) | (simp only [zfn, ↓reduceIte, Nat.reduceEqDiff, e3]; rfl)), by simp only [cellsT]; exact j2, by simp only [cellsT]; exact j3, (by first | (simp only [zfn, ↓reduceIte, Nat.reduceEqDiff]; done) | (simp only [zfn, ↓reduceIte, Nat.reduceEqDiff]; rfl)), .inr (.inl ⟨rfl, z⟩)⟩
      · have p3 : (cmpT x x' != 0) = true := by rw [bne_iff_ne]; exact z
        rw [or2_n z]
        simp only [zaa, zab, zac, zad, zae, zaf, zag, zah, zai, zaj, zak, zal, zam, zan, zao, zap, zaq, zar, zas, zat, zau, zav, zaw, zax, zay, zaz, zba, zbb, zbc, zbd, zbe, zbf, zbg, zbh, zbi, zbj, zbk, zbl, zbm, zbn, zbo, zbp, zbq, Nat.reduceBEq, Bool.or_self, Bool.or_false, Bool.or_true, Bool.and_true, Bool.and_false, Bool.true_and, Bool.false_and, Option.isNone_none, Option.isNone_some, Option.isSome_some, Option.isSome_none, zbr, zbs, zbt, zbu, zbv, zbw, zbx, zby, zbz, zca, zcb, zcc, zcd, zce, zcf, zcg, zch, zci, zcj, zck, zcl, zcm, zcn, zco, zcp, zcq, zcr, zcs, zct, zcu, zcv, zcw, zcx, zcy, zcz, zda, zdb, zdc, zdd, zde, zdf, zdg, zdh, zdi, zdj, zdk, zdl, zdm, zdn, zdo, zdp, zdq, zdr, zds, Option.getD_some, Option.getD_none, zfg, zfh, zfi, zfj, zfk, zfl, zfm, zfn, Option.map_some, Option.map_none, Option.bind_some, List.map_cons, List.map_nil, List.cons_append, List.nil_append, ↓reduceIte, Nat.reduceEqDiff, Nat.reduceAdd, decide_true, decide_false, Bool.true_eq_false, Bool.false_eq_true, zdt, zdu, zdv, zdw, zdx, zdy, zdz, zea, ia22, ld31, zeb, zec, zed, zee, zef, zeg, zeh, zei, zej, zek, zel, zem, zen, zeo, zep, fa_0, fa_1, zeq, bd_0, bd_2, zer, fd_1, zes, Nat.zero_add, e2, e3, j2, j3, e11, ldT_a, q1, pa0, pb0, ca, i_neqV, p3]
        exact finish_i _ _ _ _ _ _ _ (by first | (simp only [zfn, ↓reduceIte, Nat.reduceEqDiff]; done) | (simp only [zfn, ↓reduceIte, Nat.reduceEqDiff]; rfl)) rfl
    · have q1 : ((1 : Nat) : Int) < 2 := by decide
      have f5 := i_add Tryz.prog 3 ((1 : Nat) : Int) 1 (by omega) (by omega)
      rw [or2_0 z] at ih ⊢
      by_cases z2 : cmpT y y' = 0
      · rw [z2] at cb
        simp only [zaa, zab, zac, zad, zae, zaf, zag, zah, zai, zaj, zak, zal, zam, zan, zao, zap, zaq, zar, zas, zat, zau, zav, zaw, zax, zay, zaz, zba, zbb, zbc, zbd, zbe, zbf, zbg, zbh, zbi, zbj, zbk, zbl, zbm, zbn, zbo, zbp, zbq, Nat.reduceBEq, Bool.or_self, Bool.or_false, Bool.or_true, Bool.and_true, Bool.and_false, Bool.true_and, Bool.false_and, Option.isNone_none, Option.isNone_some, Option.isSome_some, Option.isSome_none, zbr, zbs, zbt, zbu, zbv, zbw, zbx, zby, zbz, zca, zcb, zcc, zcd, zce, zcf, zcg, zch, zci, zcj, zck, zcl, zcm, zcn, zco, zcp, zcq, zcr, zcs, zct, zcu, zcv, zcw, zcx, zcy, zcz, zda, zdb, zdc, zdd, zde, zdf, zdg, zdh, zdi, zdj, zdk, zdl, zdm, zdn, zdo, zdp, zdq, zdr, zds, Option.getD_some, Option.getD_none, zfg, zfh, zfi, zfj, zfk, zfl, zfm, zfn, Option.map_some, Option.map_none, Option.bind_some, List.map_cons, List.map_nil, List.cons_append, List.nil_append, ↓reduceIte, Nat.reduceEqDiff, Nat.reduceAdd, decide_true, decide_false, Bool.true_eq_false, Bool.false_eq_true, zdt, zdu, zdv, zdw, zdx, zdy, zdz, zea, ia22, ld31, zeb, zec, zed, zee, zef, zeg, zeh, zei, zej, zek, zel, zem, zen, zeo, zep, fa_0, fa_1, zeq, bd_0, bd_2, zer, fd_1, zes, Nat.zero_add, e2, e3, j2, j3, e11, ldT_a, q1, pa1, pb1, cb, i_neqV, p1, f5]
        exact ih 2 _ _ (by omega) rfl ⟨(by first | (simp only [zfn, ↓reduceIte, Nat.reduceEqDiff, e2]; done) | (simp only [zfn, ↓reduceIte, Nat.reduceEqDiff, e2]; rfl)), (by first | (simp only [zfn, ↓reduceIte, Nat.reduceEqDiff, e3]; done) | (simp only [zfn, ↓reduceIte, Nat.reduceEqDiff, e3]; rfl)), by simp only [cellsT]; exact j2, by simp only [cellsT]; exact j3, (by first | (simp only [zfn, ↓reduceIte, Nat.reduceEqDiff]; done) | (simp only [zfn, ↓reduceIte, Nat.reduceEqDiff]; rfl)), .inr (.inr ⟨rfl, z, z2⟩)⟩
      · have p3 : (cmpT y y' != 0) = true := by rw [bne_iff_ne]; exact z2
        simp only [zaa, zab, zac, zad, zae, zaf, zag, zah, zai, zaj, zak, zal, zam, zan, zao, zap, zaq, zar, zas, zat, zau, zav, zaw, zax, zay, zaz, zba, zbb, zbc, zbd, zbe, zbf, zbg, zbh, zbi, zbj, zbk, zbl, zbm, zbn, zbo, zbp, zbq, Nat.reduceBEq, Bool.or_self, Bool.or_false, Bool.or_true, Bool.and_true, Bool.and_false, Bool.true_and, Bool.false_and, Option.isNone_none, Option.isNone_some, Option.isSome_some, Option.isSome_none, zbr, zbs, zbt, zbu, zbv, zbw, zbx, zby, zbz, zca, zcb, zcc, zcd, zce, zcf, zcg, zch, zci, zcj, zck, zcl, zcm, zcn, zco, zcp, zcq, zcr, zcs, zct, zcu, zcv, zcw, zcx, zcy, zcz, zda, zdb, zdc, zdd, zde, zdf, zdg, zdh, zdi, zdj, zdk, zdl, zdm, zdn, zdo, zdp, zdq, zdr, zds, Option.getD_some, Option.getD_none, zfg, zfh, zfi, zfj, zfk, zfl, zfm, zfn, Option.map_some, Option.map_none, Option.bind_some, List.map_cons, List.map_nil, List.cons_append, List.nil_append, ↓reduceIte, Nat.reduceEqDiff, Nat.reduceAdd, decide_true, decide_false, Bool.true_eq_false, Bool.false_eq_true, zdt, zdu, zdv, zdw, zdx, zdy, zdz, zea, ia22, ld31, zeb, zec, zed, zee, zef, zeg, zeh, zei, zej, zek, zel, zem, zen, zeo, zep, fa_0, fa_1, zeq, bd_0, bd_2, zer, fd_1, zes, Nat.zero_add, e2, e3, j2, j3, e11, ldT_a, q1, pa1, pb1, cb, i_neqV, p3]
        exact finish_i _ _ _ _ _ _ _ (by first | (simp only [zfn, ↓reduceIte, Nat.reduceEqDiff]; done) | (simp only [zfn, ↓reduceIte, Nat.reduceEqDiff]; rfl)) rfl
    · have q1 : ¬ ((2 : Nat) : Int) < 2 := by decide
      rw [or2_0 z, z2]
      simp only [zaa, zab, zac, zad, zae, zaf, zag, zah, zai, zaj, zak, zal, zam, zan, zao, zap, zaq, zar, zas, zat, zau, zav, zaw, zax, zay, zaz, zba, zbb, zbc, zbd, zbe, zbf, zbg, zbh, zbi, zbj, zbk, zbl, zbm, zbn, zbo, zbp, zbq, Nat.reduceBEq, Bool.or_self, Bool.or_false, Bool.or_true, Bool.and_true, Bool.and_false, Bool.true_and, Bool.false_and, Option.isNone_none, Option.isNone_some, Option.isSome_some, Option.isSome_none, zbr, zbs, zbt, zbu, zbv, zbw, zbx, zby, zbz, zca, zcb, zcc, zcd, zce, zcf, zcg, zch, zci, zcj, zck, zcl, zcm, zcn, zco, zcp, zcq, zcr, zcs, zct, zcu, zcv, zcw, zcx, zcy, zcz, zda, zdb, zdc, zdd, zde, zdf, zdg, zdh, zdi, zdj, zdk, zdl, zdm, zdn, zdo, zdp, zdq, zdr, zds, Option.getD_some, Option.getD_none, zfg, zfh, zfi, zfj, zfk, zfl, zfm, zfn, Option.map_some, Option.map_none, Option.bind_some, List.map_cons, List.map_nil, List.cons_append, List.nil_append, ↓reduceIte, Nat.reduceEqDiff, Nat.reduceAdd, decide_true, decide_false, Bool.true_eq_false, Bool.false_eq_true, zdt, zdu, zdv, zdw, zdx, zdy, zdz, zea, ia22, ld31, zeb, zec, zed, zee, zef, zeg, zeh, zei, zej, zek, zel, zem, zen, zeo, zep, fa_0, fa_1, zeq, bd_0, bd_2, zer, fd_1, zes, Nat.zero_add, e2, e3, j2, j3, e11, q1]
      exact finish_i _ _ _ _ _ _ _ (by first | (simp only [zfn, ↓reduceIte, Nat.reduceEqDiff]; done) | (simp only [zfn, ↓reduceIte, Nat.reduceEqDiff]; rfl)) rfl
end Go.Ab

/- bif.two: max, min, member; bif.Call of two arguments. Conditions: terms that may be. -/
namespace Go.Ab
open Go.Proofs
set_option maxRecDepth 100000
set_option linter.unusedSimpArgs false

def sLists : List UInt8 := [108, 105, 115, 116, 115]
def sMax : List UInt8 := [109, 97, 120]
def sMin : List UInt8 := [109, 105, 110]
def sMem : List UInt8 := [109, 101, 109, 98, 101, 114]
def sTrue : List UInt8 := [116, 114, 117, 101]
theorem hasMax : evalFn Tryz.prog cfg0 100000 20 12 [.tree (.str sErl), .tree (.str sMax), .tree (.int .i64 2)] = some (.tree (.bool true), [[], [], []]) := by kernel_rfl
theorem contMax : evalFn Tryz.prog cfg0 100000 20 33 [.tree (.sl throws 3 .tight), .tree (.str sMax)] = some (.tree (.bool false), [[], []]) := by kernel_rfl
theorem hasMin : evalFn Tryz.prog cfg0 100000 20 12 [.tree (.str sErl), .tree (.str sMin), .tree (.int .i64 2)] = some (.tree (.bool true), [[], [], []]) := by kernel_rfl
theorem contMin : evalFn Tryz.prog cfg0 100000 20 33 [.tree (.sl throws 3 .tight), .tree (.str sMin)] = some (.tree (.bool false), [[], []]) := by kernel_rfl
theorem hasMem : evalFn Tryz.prog cfg0 100000 20 12 [.tree (.str sLists), .tree (.str sMem), .tree (.int .i64 2)] = some (.tree (.bool true), [[], [], []]) := by kernel_rfl
def maxT (a b : T) : T := if cmpT a b ≥ 0 then a else b
def minT (a b : T) : T := if cmpT a b ≤ 0 then a else b
set_option maxHeartbeats 4000000 in
theorem twoMax_eq (R d : Nat) (hR : 100000 ≤ R) (hd : 6006 ≤ d) (a b : T) (ha : goodT a) (hb : goodT b) (hn : nodT a ≤ 2000) : evalFn Tryz.prog cfg0 R (d+1) 63 [.tree (.str sMax), .tree (encT a), .tree (encT b)] = some (.tree (.tup [encT (maxT a b), .bool true]), [[], [], []]) := by
  rw [evalFn_go _ Tryz.func63 (by unfold Tryz.f63; rfl) (by unfold Tryz.f63; decide) (Nat.le_of_ble_eq_true (by unfold Tryz.f63; rfl)) (by kernel_rfl)]
  have w0 : (sMax == ([101, 108, 101, 109, 101, 110, 116] : List UInt8)) = false := by decide
  have w1 : (sMax == ([109, 101, 109, 98, 101, 114] : List UInt8)) = false := by decide
  have w2 : (sMax == ([109, 97, 120] : List UInt8)) = true := by decide
  have w3 : (sMax == ([109, 105, 110] : List UInt8)) = false := by decide
  have c := fun D st => callA_trees (cfg := cfg0) (d := D) (s := st) (f := 96) (vs := [encT a, encT b]) rfl (qCmp R hR d hd a b ha hb hn)
  simp only [encT] at c
  by_cases h : cmpT a b ≥ 0
  · have e : maxT a b = a := if_pos h
    rw [e]
    simp only [zaa, zab, zac, zad, zae, zaf, zag, zah, zai, zaj, zak, zal, zam, zan, zao, zap, zaq, zar, zas, zat, zau, zav, zaw, zax, zay, zaz, zba, zbb, zbc, zbd, zbe, zbf, zbg, zbh, zbi, zbj, zbk, zbl, zbm, zbn, zbo, zbp, zbq, Nat.reduceBEq, Bool.or_self, Bool.or_false, Bool.or_true, Bool.and_true, Bool.and_false, Bool.true_and, Bool.false_and, Option.isNone_none, Option.isNone_some, Option.isSome_some, Option.isSome_none, zbr, zbs, zbt, zbu, zbv, zbw, zbx, zby, zbz, zca, zcb, zcc, zcd, zce, zcf, zcg, zch, zci, zcj, zck, zcl, zcm, zcn, zco, zcp, zcq, zcr, zcs, zct, zcu, zcv, zcw, zcx, zcy, zcz, zda, zdb, zdc, zdd, zde, zdf, zdg, zdh, zdi, zdj, zdk, zdl, zdm, zdn, zdo, zdp, zdq, zdr, zds, Option.getD_some, Option.getD_none, zfg, zfh, zfi, zfj, zfk, zfl, zfm, zfn, Option.map_some, Option.map_none, Option.bind_some, List.map_cons, List.map_nil, List.cons_append, List.nil_append, ↓reduceIte, Nat.reduceEqDiff, Nat.reduceAdd, decide_true, decide_false, Bool.true_eq_false, Bool.false_eq_true, env0, List.getElem?_cons_zero, List.getElem?_cons_succ, zdt, zdu, zdv, zdw, zdx, zdy, zdz, zea, ia22, ld31, zeb, zec, zed, zee, zef, zeg, zeh, zei, zej, zek, zel, zem, zen, zeo, zep, fa_0, fa_1, zeq, bd_0, bd_2, zer, fd_1, zes, Nat.zero_add, zet, List.toList_toArray, len9, ix9, zeu, zev, zew, zex, zey, zeroT, encT, ldT_u, s_eqlS, w0, w1, w2, w3, c, h, st_Tt, stT_6]
    exact finish_T2 _ _ _ _ _ a _ _ _ _ _ (by first | (simp only [zfn, ↓reduceIte, Nat.reduceEqDiff]; done) | (simp only [zfn, ↓reduceIte, Nat.reduceEqDiff]; rfl)) (by first | (simp only [zfn, ↓reduceIte, Nat.reduceEqDiff]; done) | (simp only [zfn, ↓reduceIte, Nat.reduceEqDiff]; rfl)) (by first | (simp only [zfn, ↓reduceIte, Nat.reduceEqDiff]; done) | (simp only [zfn, ↓reduceIte, Nat.reduceEqDiff]; rfl)) rfl
  · have e : maxT a b = b := if_neg h
    rw [e]
    simp only [zaa, zab, zac, zad, zae, zaf, zag, zah, zai, zaj, zak, zal, zam, zan, zao, zap, zaq, zar, zas, zat, zau, zav, zaw, zax, zay, zaz, zba, zbb, zbc, zbd, zbe, zbf, zbg, zbh, zbi, zbj, zbk, zbl, zbm, zbn, zbo, zbp, zbq, Nat.reduceBEq, Bool.or_self, Bool.or_false, Bool.or_true, Bool.and_true, Bool.and_false, Bool.true_and, Bool.false_and, Option.isNone_none, Option.isNone_some, Option.isSome_some, Option.isSome_none, zbr, zbs, zbt, zbu, zbv, zbw, zbx, zby, zbz, zca, zcb, zcc, zcd, zce, zcf, zcg, zch, zci, zcj, zck, zcl, zcm, zcn, zco, zcp, zcq, zcr, zcs, zct, zcu, zcv, zcw, zcx, zcy, zcz, zda, zdb, zdc, zdd, zde, zdf, zdg, zdh, zdi, zdj, zdk, zdl, zdm, zdn, zdo, zdp, zdq, zdr, zds, Option.getD_some, Option.getD_none, zfg, zfh, zfi, zfj, zfk, zfl, zfm, zfn, Option.map_some, Option.map_none, Option.bind_some, List.map_cons, List.map_nil, List.cons_append, List.nil_append, ↓reduceIte, Nat.reduceEqDiff, Nat.reduceAdd, decide_true, decide_false, Bool.true_eq_false, Bool.false_eq_true, env0, List.getElem?_cons_zero, List.getElem?_cons_succ, zdt, zdu, zdv, zdw, zdx, zdy, zdz, zea, ia22, ld31, zeb, zec, zed, zee, zef, zeg, zeh, zei, zej, zek, zel, zem, zen, zeo, zep, fa_0, fa_1, zeq, bd_0, bd_2, zer, fd_1, zes, Nat.zero_add, zet, List.toList_toArray, len9, ix9, zeu, zev, zew, zex, zey, zeroT, encT, ldT_u, s_eqlS, w0, w1, w2, w3, c, h, st_Tt, stT_6]
    exact finish_T2 _ _ _ _ _ b _ _ _ _ _ (by first | (simp only [zfn, ↓reduceIte, Nat.reduceEqDiff]; done) | (simp only [zfn, ↓reduceIte, Nat.reduceEqDiff]; rfl)) (by first | (simp only [zfn, ↓reduceIte, Nat.reduceEqDiff]; done) | (simp only [zfn, ↓reduceIte, Nat.reduceEqDiff]; rfl)) (by first | (simp only [zfn, ↓reduceIte, Nat.reduceEqDiff]; done) | (simp only [zfn, ↓reduceIte, Nat.reduceEqDiff]; rfl)) rfl
set_option maxHeartbeats 4000000 in
theorem twoMin_eq (R d : Nat) (hR : 100000 ≤ R) (hd : 6006 ≤ d) (a b : T) (ha : goodT a) (hb : goodT b) (hn : nodT a ≤ 2000) : evalFn Tryz.prog cfg0 R (d+1) 63 [.tree (.str sMin), .tree (encT a), .tree (encT b)] = some (.tree (.tup [encT (minT a b), .bool true]), [[], [], []]) := by
  rw [evalFn_go _ Tryz.func63 (by unfold Tryz.f63; rfl) (by unfold Tryz.f63; decide) (Nat.le_of_ble_eq_true (by unfold Tryz.f63; rfl)) (by kernel_rfl)]
  have w0 : (sMin == ([101, 108, 101, 109, 101, 110, 116] : List UInt8)) = false := by decide
  have w1 : (sMin == ([109, 101, 109, 98, 101, 114] : List UInt8)) = false := by decide
  have w2 : (sMin == ([109, 97, 120] : List UInt8)) = false := by decide
  have w3 : (sMin == ([109, 105, 110] : List UInt8)) = true := by decide
  have c := fun D st => callA_trees (cfg := cfg0) (d := D) (s := st) (f := 96) (vs := [encT a, encT b]) rfl (qCmp R hR d hd a b ha hb hn)
  simp only [encT] at c
  by_cases h : cmpT a b ≤ 0
  · have e : minT a b = a := if_pos h
    rw [e]
    simp only [zaa, zab, zac, zad, zae, zaf, zag, zah, zai, zaj, zak, zal, zam, zan, zao, zap, zaq, zar, zas, zat, zau, zav, zaw, zax, zay, zaz, zba, zbb, zbc, zbd, zbe, zbf, zbg, zbh, zbi, zbj, zbk, zbl, zbm, zbn, zbo, zbp, zbq, Nat.reduceBEq, Bool.or_self, Bool.or_false, Bool.or_true, Bool.and_true, Bool.and_false, Bool.true_and, Bool.false_and, Option.isNone_none, Option.isNone_some, Option.isSome_some, Option.isSome_none, zbr, zbs, zbt, zbu, zbv, zbw, zbx, zby, zbz, zca, zcb, zcc, zcd, zce, zcf, zcg, zch, zci, zcj, zck, zcl, zcm, zcn, zco, zcp, zcq, zcr, zcs, zct, zcu, zcv, zcw, zcx, zcy, zcz, zda, zdb, zdc, zdd, zde, zdf, zdg, zdh, zdi, zdj, zdk, zdl, zdm, zdn, zdo, zdp, zdq, zdr, zds, Option.getD_some, Option.getD_none, zfg, zfh, zfi, zfj, zfk, zfl, zfm, zfn, Option.map_some, Option.map_none, Option.bind_some, List.map_cons, List.map_nil, List.cons_append, List.nil_append, ↓reduceIte, Nat.reduceEqDiff, Nat.reduceAdd, decide_true, decide_false, Bool.true_eq_false, Bool.false_eq_true, env0, List.getElem?_cons_zero, List.getElem?_cons_succ, zdt, zdu, zdv, zdw, zdx, zdy, zdz, zea, ia22, ld31, zeb, zec, zed, zee, zef, zeg, zeh, zei, zej, zek, zel, zem, zen, zeo, zep, fa_0, fa_1, zeq, bd_0, bd_2, zer, fd_1, zes, Nat.zero_add, zet, List.toList_toArray, len9, ix9, zeu, zev, zew, zex, zey, zeroT, encT, ldT_u, s_eqlS, w0, w1, w2, w3, c, h, st_Tt, stT_6]
    exact finish_T2 _ _ _ _ _ a _ _ _ _ _ (by first | (simp only [zfn, ↓reduceIte, Nat.reduceEqDiff]; done) | (simp only [zfn, ↓reduceIte, Nat.reduceEqDiff]; rfl)) (by first | (simp only [zfn, ↓reduceIte, Nat.reduceEqDiff]; done) | (simp only [zfn, ↓reduceIte, Nat.reduceEqDiff]; rfl)) (by first | (simp only [zfn, ↓reduceIte, Nat.reduceEqDiff]; done) | (simp only [zfn, ↓reduceIte, Nat.reduceEqDiff]; rfl)) rfl
  · have e : minT a b = b := if_neg h
    rw [e]
    simp only [zaa, zab, zac, zad, zae, zaf, zag, zah, zai, zaj, zak, zal, zam, zan, zao, zap, zaq, zar, zas, zat, zau, zav, zaw, zax, zay, zaz, zba, zbb, zbc, zbd, zbe, zbf, zbg, zbh, zbi, zbj, zbk, zbl, zbm, zbn, zbo, zbp, zbq, Nat.reduceBEq, Bool.or_self, Bool.or_false, Bool.or_true, Bool.and_true, Bool.and_false, Bool.true_and, Bool.false_and, Option.isNone_none, Option.isNone_some, Option.isSome_some, Option.isSome_none, zbr, zbs, zbt, zbu, zbv, zbw, zbx, zby, zbz, zca, zcb, zcc, zcd, zce, zcf, zcg, zch, zci, zcj, zck, zcl, zcm, zcn, zco, zcp, zcq, zcr, zcs, zct, zcu, zcv, zcw, zcx, zcy, zcz, zda, zdb, zdc, zdd, zde, zdf, zdg, zdh, zdi, zdj, zdk, zdl, zdm, zdn, zdo, zdp, zdq, zdr, zds, Option.getD_some, Option.getD_none, zfg, zfh, zfi, zfj, zfk, zfl, zfm, zfn, Option.map_some, Option.map_none, Option.bind_some, List.map_cons, List.map_nil, List.cons_append, List.nil_append, ↓reduceIte, Nat.reduceEqDiff, Nat.reduceAdd, decide_true, decide_false, Bool.true_eq_false, Bool.false_eq_true, env0, List.getElem?_cons_zero, List.getElem?_cons_succ, zdt, zdu, zdv, zdw, zdx, zdy, zdz, zea, ia22, ld31, zeb, zec, zed, zee, zef, zeg, zeh, zei, zej, zek, zel, zem, zen, zeo, zep, fa_0, fa_1, zeq, bd_0, bd_2, zer, fd_1, zes, Nat.zero_add, zet, List.toList_toArray, len9, ix9, zeu, zev, zew, zex, zey, zeroT, encT, ldT_u, s_eqlS, w0, w1, w2, w3, c, h, st_Tt, stT_6]
    exact finish_T2 _ _ _ _ _ b _ _ _ _ _ (by first | (simp only [zfn, ↓reduceIte, Nat.reduceEqDiff]; done) | (simp only [zfn, ↓reduceIte, Nat.reduceEqDiff]; rfl)) (by first | (simp only [zfn, ↓reduceIte, Nat.reduceEqDiff]; done) | (simp only [zfn, ↓reduceIte, Nat.reduceEqDiff]; rfl)) (by first | (simp only [zfn, ↓reduceIte, Nat.reduceEqDiff]; done) | (simp only [zfn, ↓reduceIte, Nat.reduceEqDiff]; rfl)) rfl
def atomT (s : List UInt8) : T := .mk 2 false .n [] s 0 .n []
theorem bdT_at (s : List UInt8) : buildA Tryz.prog 29 [(0, .int .i64 2), (2, .str s)] = some (.agg (cellsT (atomT s))) := bdT_2 2 s
theorem atom_eq (n d : Nat) (s : List UInt8) : evalFn Tryz.prog cfg0 n (d+1) 29 [.tree (.str s)] = some (.tree (encT (atomT s)), [[]]) := by
  rw [evalFn_go _ Tryz.func29 (by unfold Tryz.f29; rfl) (by unfold Tryz.f29; decide) (Nat.le_of_ble_eq_true (by unfold Tryz.f29; rfl)) (by kernel_rfl)]
  simp only [zaa, zab, zac, zad, zae, zaf, zag, zah, zai, zaj, zak, zal, zam, zan, zao, zap, zaq, zar, zas, zat, zau, zav, zaw, zax, zay, zaz, zba, zbb, zbc, zbd, zbe, zbf, zbg, zbh, zbi, zbj, zbk, zbl, zbm, zbn, zbo, zbp, zbq, Nat.reduceBEq, Bool.or_self, Bool.or_false, Bool.or_true, Bool.and_true, Bool.and_false, Bool.true_and, Bool.false_and, Option.isNone_none, Option.isNone_some, Option.isSome_some, Option.isSome_none, zbr, zbs, zbt, zbu, zbv, zbw, zbx, zby, zbz, zca, zcb, zcc, zcd, zce, zcf, zcg, zch, zci, zcj, zck, zcl, zcm, zcn, zco, zcp, zcq, zcr, zcs, zct, zcu, zcv, zcw, zcx, zcy, zcz, zda, zdb, zdc, zdd, zde, zdf, zdg, zdh, zdi, zdj, zdk, zdl, zdm, zdn, zdo, zdp, zdq, zdr, zds, Option.getD_some, Option.getD_none, zfg, zfh, zfi, zfj, zfk, zfl, zfm, zfn, Option.map_some, Option.map_none, Option.bind_some, List.map_cons, List.map_nil, List.cons_append, List.nil_append, ↓reduceIte, Nat.reduceEqDiff, Nat.reduceAdd, decide_true, decide_false, Bool.true_eq_false, Bool.false_eq_true, env0, List.getElem?_cons_zero, List.getElem?_cons_succ, zdt, zdu, zdv, zdw, zdx, zdy, zdz, zea, ia22, ld31, zeb, zec, zed, zee, zef, zeg, zeh, zei, zej, zek, zel, zem, zen, zeo, zep, fa_0, fa_1, zeq, bd_0, bd_2, zer, fd_1, zes, Nat.zero_add, zeroT, bdT_at, st_Tt, stT_6]
  exact finish_cT _ _ _ _ _ (atomT s) _ _ _ (by first | (simp only [zfn, ↓reduceIte, Nat.reduceEqDiff]; done) | (simp only [zfn, ↓reduceIte, Nat.reduceEqDiff]; rfl)) (by first | (simp only [zfn, ↓reduceIte, Nat.reduceEqDiff]; done) | (simp only [zfn, ↓reduceIte, Nat.reduceEqDiff]; rfl)) rfl
set_option maxHeartbeats 4000000 in
theorem member_eq (R d : Nat) (hR : 100000 ≤ R) (a : T) (m : List T) (L : T) (hL : itemsT L = some m) (hl : m.length ≤ 2000) (ham : a ∈ m)
    (hs : ∀ x ∈ m, evalFn Tryz.prog cfg0 R (d+1) 121 [.tree (encT x), .tree (encT a)] = some (.tree (.bool (sameT x a)), [[], []])) :
    evalFn Tryz.prog cfg0 R (d+2) 95 [.tree (encT a), .tree (encT L)] = some (.tree (.tup [encT (atomT sTrue), .bool true]), [[], []]) := by
  rw [evalFn_go _ Tryz.func95 (by unfold Tryz.f95; rfl) (by unfold Tryz.f95; decide) (Nat.le_of_ble_eq_true (by unfold Tryz.f95; rfl)) (by kernel_rfl)]
  have ct := fun D st => callA_trees (cfg := cfg0) (d := D) (s := st) (f := 53) (vs := [encT L]) rfl (items_eq R (by omega) d L)
  rw [hL] at ct
  simp only [itemsV, encT] at ct
  have cat := fun D st => callA_trees (cfg := cfg0) (d := D) (s := st) (f := 29) (vs := [.str sTrue]) rfl (atom_eq R d sTrue)
  simp only [encT, sTrue] at cat
  simp only [zaa, zab, zac, zad, zae, zaf, zag, zah, zai, zaj, zak, zal, zam, zan, zao, zap, zaq, zar, zas, zat, zau, zav, zaw, zax, zay, zaz, zba, zbb, zbc, zbd, zbe, zbf, zbg, zbh, zbi, zbj, zbk, zbl, zbm, zbn, zbo, zbp, zbq, Nat.reduceBEq, Bool.or_self, Bool.or_false, Bool.or_true, Bool.and_true, Bool.and_false, Bool.true_and, Bool.false_and, Option.isNone_none, Option.isNone_some, Option.isSome_some, Option.isSome_none, zbr, zbs, zbt, zbu, zbv, zbw, zbx, zby, zbz, zca, zcb, zcc, zcd, zce, zcf, zcg, zch, zci, zcj, zck, zcl, zcm, zcn, zco, zcp, zcq, zcr, zcs, zct, zcu, zcv, zcw, zcx, zcy, zcz, zda, zdb, zdc, zdd, zde, zdf, zdg, zdh, zdi, zdj, zdk, zdl, zdm, zdn, zdo, zdp, zdq, zdr, zds, Option.getD_some, Option.getD_none, zfg, zfh, zfi, zfj, zfk, zfl, zfm, zfn, Option.map_some, Option.map_none, Option.bind_some, List.map_cons, List.map_nil, List.cons_append, List.nil_append, ↓reduceIte, Nat.reduceEqDiff, Nat.reduceAdd, decide_true, decide_false, Bool.true_eq_false, Bool.false_eq_true, env0, List.getElem?_cons_zero, List.getElem?_cons_succ, zdt, zdu, zdv, zdw, zdx, zdy, zdz, zea, ia22, ld31, zeb, zec, zed, zee, zef, zeg, zeh, zei, zej, zek, zel, zem, zen, zeo, zep, fa_0, fa_1, zeq, bd_0, bd_2, zer, fd_1, zes, Nat.zero_add, zet, List.toList_toArray, len9, ix9, zeu, zev, zew, zex, zey, zeroT, encT, ldT_u, ct, zds, unA_not', Bool.not_true, lenTk, zbt, zbw, den_loop]
  refine loop_ends (X := Nat) (fun i env st => env 2 = .ptr 2 1 0 ∧ env 4 = .ptr 4 1 0 ∧ st 2 = ⟨1, .buf (cellsT a)⟩ ∧ st 4 = ⟨1, .buf [.int .i64 0, .bool false, .sl [] 0 .nil, .str [], .int .i64 0, .sl [] 0 .nil]⟩ ∧ env 19 = .sl (cellsK m) m.length (gr (kgOf m)) ∧ env 20 = .int .i64 (m.length : Int) ∧ env 21 = .int .i64 (i : Int) ∧ a ∈ m.drop i) (fun i => m.length - i) (fun _ => (.tree (.tup [encT (atomT sTrue), .bool true]), [[], []])) ?_ R 0 _ _ (by omega) ⟨(by first | (simp only [zfn, ↓reduceIte, Nat.reduceEqDiff]; done) | (simp only [zfn, ↓reduceIte, Nat.reduceEqDiff]; rfl)), (by first | (simp only [zfn, ↓reduceIte, Nat.reduceEqDiff]; done) | (simp only [zfn, ↓reduceIte, Nat.reduceEqDiff]; rfl)), (by first | (simp only [zfn, ↓reduceIte, Nat.reduceEqDiff]; done) | (simp only [zfn, ↓reduceIte, Nat.reduceEqDiff]; rfl)), (by first | (simp only [zfn, ↓reduceIte, Nat.reduceEqDiff]; done) | (simp only [zfn, ↓reduceIte, Nat.reduceEqDiff]; rfl)), (by first | (simp only [zfn, ↓reduceIte, Nat.reduceEqDiff]; done) | (simp only [zfn, ↓reduceIte, Nat.reduceEqDiff]; rfl)), (by first | (simp only [zfn, ↓reduceIte, Nat.reduceEqDiff]; done) | (simp only [zfn, ↓reduceIte, Nat.reduceEqDiff]; rfl)), (by first | (simp only [zfn, ↓reduceIte, Nat.reduceEqDiff]; done) | (simp only [zfn, ↓reduceIte, Nat.reduceEqDiff]; rfl)), ham⟩
  intro rr i hx ih env st ⟨e2, e4, j2, j4, e19, e20, e21, hm⟩
  cases hda : m.drop i with
  | nil => rw [hda] at hm; cases hm
  | cons x q =>
    have hil : i < m.length := by have := congrArg List.length hda; simp only [List.length_drop, List.length_cons] at this; omega
    have q1 : (i : Int) < (m.length : Int) := by omega
    have ia := fun st => ia_K st m (gr (kgOf m)) i hil
    rw [hda] at ia hm
    have ld := fun st => ld_K st x q
    simp only [encT] at ld
    have hxm : x ∈ m := by have : x ∈ m.drop i := by rw [hda]; simp
                           exact List.mem_of_mem_drop this
    have cs := fun D st => callA_trees (cfg := cfg0) (d := D) (s := st) (f := 121) (vs := [encT x, encT a]) rfl (hs x hxm)
    simp only [encT] at cs
    have f5 := i_add Tryz.prog 3 (i : Int) 1 (by omega) (by omega)
    cases hsm : sameT x a with
    | true =>
      rw [hsm] at cs
      simp only [zaa, zab, zac, zad, zae, zaf, zag, zah, zai, zaj, zak, zal, zam, zan, zao, zap, zaq, zar, zas, zat, zau, zav, zaw, zax, zay, zaz, zba, zbb, zbc, zbd, zbe, zbf, zbg, zbh, zbi, zbj, zbk, zbl, zbm, zbn, zbo, zbp, zbq, Nat.reduceBEq, Bool.or_self, Bool.or_false, Bool.or_true, Bool.and_true, Bool.and_false, Bool.true_and, Bool.false_and, Option.isNone_none, Option.isNone_some, Option.isSome_some, Option.isSome_none, zbr, zbs, zbt, zbu, zbv, zbw, zbx, zby, zbz, zca, zcb, zcc, zcd, zce, zcf, zcg, zch, zci, zcj, zck, zcl, zcm, zcn, zco, zcp, zcq, zcr, zcs, zct, zcu, zcv, zcw, zcx, zcy, zcz, zda, zdb, zdc, zdd, zde, zdf, zdg, zdh, zdi, zdj, zdk, zdl, zdm, zdn, zdo, zdp, zdq, zdr, zds, Option.getD_some, Option.getD_none, zfg, zfh, zfi, zfj, zfk, zfl, zfm, zfn, Option.map_some, Option.map_none, Option.bind_some, List.map_cons, List.map_nil, List.cons_append, List.nil_append, ↓reduceIte, Nat.reduceEqDiff, Nat.reduceAdd, decide_true, decide_false, Bool.true_eq_false, Bool.false_eq_true, zdt, zdu, zdv, zdw, zdx, zdy, zdz, zea, ia22, ld31, zeb, zec, zed, zee, zef, zeg, zeh, zei, zej, zek, zel, zem, zen, zeo, zep, fa_0, fa_1, zeq, bd_0, bd_2, zer, fd_1, zes, Nat.zero_add, zet, List.toList_toArray, len9, ix9, zeu, zev, zew, zex, zey, zeroT, e2, e4, j2, j4, e19, e20, e21, q1, ia, ld, ldT_u, st_Tt, stT_6, cs, cat]
      exact finish_T2 _ _ _ _ _ (atomT sTrue) _ _ _ _ _ (by first | (simp only [zfn, ↓reduceIte, Nat.reduceEqDiff, e4]; done) | (simp only [zfn, ↓reduceIte, Nat.reduceEqDiff, e4]; rfl)) (by first | (simp only [zfn, ↓reduceIte, Nat.reduceEqDiff]; done) | (simp only [zfn, ↓reduceIte, Nat.reduceEqDiff]; rfl)) (by first | (simp only [zfn, ↓reduceIte, Nat.reduceEqDiff]; done) | (simp only [zfn, ↓reduceIte, Nat.reduceEqDiff]; rfl)) rfl
    | false =>
      rw [hsm] at cs
      have hne : a ∈ q := by
        rcases List.mem_cons.mp hm with rfl | h
        · rw [same_refl] at hsm; cases hsm
        · exact h
      simp only [zaa, zab, zac, zad, zae, zaf, zag, zah, zai, zaj, zak, zal, zam, zan, zao, zap, zaq, zar, zas, zat, zau, zav, zaw, zax, zay, zaz, zba, zbb, zbc, zbd, zbe, zbf, zbg, zbh, zbi, zbj, zbk, zbl, zbm, zbn, zbo, zbp, zbq, Nat.reduceBEq, Bool.or_self, Bool.or_false, Bool.or_true, Bool.and_true, Bool.and_false, Bool.true_and, Bool.false_and, Option.isNone_none, Option.isNone_some, Option.isSome_some, Option.isSome_none, zbr, zbs, zbt, zbu, zbv, zbw, zbx, zby, zbz, zca, zcb, zcc, zcd, zce, zcf, zcg, zch, zci, zcj, zck, zcl, zcm, zcn, zco, zcp, zcq, zcr, zcs, zct, zcu, zcv, zcw, zcx, zcy, zcz, zda, zdb, zdc, zdd, zde, zdf, zdg, zdh, zdi, zdj, zdk, zdl, zdm, zdn, zdo, zdp, zdq, zdr, zds, Option.getD_some, Option.getD_none, zfg, zfh, zfi, zfj, zfk, zfl, zfm, zfn, Option.map_some, Option.map_none, Option.bind_some, List.map_cons, List.map_nil, List.cons_append, List.nil_append, ↓reduceIte, Nat.reduceEqDiff, Nat.reduceAdd, decide_true, decide_false, Bool.true_eq_false, Bool.false_eq_true, zdt, zdu, zdv, zdw, zdx, zdy, zdz, zea, ia22, ld31, zeb, zec, zed, zee, zef, zeg, zeh, zei, zej, zek, zel, zem, zen, zeo, zep, fa_0, fa_1, zeq, bd_0, bd_2, zer, fd_1, zes, Nat.zero_add, zet, List.toList_toArray, len9, ix9, zeu, zev, zew, zex, zey, zeroT, e2, e4, j2, j4, e19, e20, e21, q1, ia, ld, ldT_u, st_Tt, stT_6, cs, f5]
      exact ih (i + 1) _ _ (by omega) rfl ⟨(by first | (simp only [zfn, ↓reduceIte, Nat.reduceEqDiff, e2]; done) | (simp only [zfn, ↓reduceIte, Nat.reduceEqDiff, e2]; rfl)), (by first | (simp only [zfn, ↓reduceIte, Nat.reduceEqDiff, e4]; done) | (simp only [zfn, ↓reduceIte, Nat.reduceEqDiff, e4]; rfl)), (by first | (simp only [zfn, ↓reduceIte, Nat.reduceEqDiff, j2]; done) | (simp only [zfn, ↓reduceIte, Nat.reduceEqDiff, j2]; rfl)), (by first | (simp only [zfn, ↓reduceIte, Nat.reduceEqDiff, j4]; done) | (simp only [zfn, ↓reduceIte, Nat.reduceEqDiff, j4]; rfl)), (by first | (simp only [zfn, ↓reduceIte, Nat.reduceEqDiff, e19]; done) | (simp only [zfn, ↓reduceIte, Nat.reduceEqDiff, e19]; rfl)), (by first | (simp only [zfn, ↓reduceIte, Nat.reduceEqDiff, e20]; done) | (simp only [zfn, ↓reduceIte, Nat.reduceEqDiff, e20]; rfl)), (by first | (simp only [zfn, ↓reduceIte, Nat.reduceEqDiff]; done) | (simp only [zfn, ↓reduceIte, Nat.reduceEqDiff]; rfl)), by rw [drop_next hda]; exact hne⟩
set_option maxHeartbeats 4000000 in
theorem twoMem_eq (R d : Nat) (a L u : T) (v : Bool) (h : evalFn Tryz.prog cfg0 R d 95 [.tree (encT a), .tree (encT L)] = some (.tree (.tup [encT u, .bool v]), [[], []])) : evalFn Tryz.prog cfg0 R (d+1) 63 [.tree (.str sMem), .tree (encT a), .tree (encT L)] = some (.tree (.tup [encT u, .bool v]), [[], [], []]) := by
  rw [evalFn_go _ Tryz.func63 (by unfold Tryz.f63; rfl) (by unfold Tryz.f63; decide) (Nat.le_of_ble_eq_true (by unfold Tryz.f63; rfl)) (by kernel_rfl)]
  have w0 : (sMem == ([101, 108, 101, 109, 101, 110, 116] : List UInt8)) = false := by decide
  have w1 : (sMem == ([109, 101, 109, 98, 101, 114] : List UInt8)) = true := by decide
  have w2 : (sMem == ([109, 97, 120] : List UInt8)) = false := by decide
  have w3 : (sMem == ([109, 105, 110] : List UInt8)) = false := by decide
  have c := fun D st => callA_trees (cfg := cfg0) (d := D) (s := st) (f := 95) (vs := [encT a, encT L]) rfl h
  simp only [encT] at c
  simp only [zaa, zab, zac, zad, zae, zaf, zag, zah, zai, zaj, zak, zal, zam, zan, zao, zap, zaq, zar, zas, zat, zau, zav, zaw, zax, zay, zaz, zba, zbb, zbc, zbd, zbe, zbf, zbg, zbh, zbi, zbj, zbk, zbl, zbm, zbn, zbo, zbp, zbq, Nat.reduceBEq, Bool.or_self, Bool.or_false, Bool.or_true, Bool.and_true, Bool.and_false, Bool.true_and, Bool.false_and, Option.isNone_none, Option.isNone_some, Option.isSome_some, Option.isSome_none, zbr, zbs, zbt, zbu, zbv, zbw, zbx, zby, zbz, zca, zcb, zcc, zcd, zce, zcf, zcg, zch, zci, zcj, zck, zcl, zcm, zcn, zco, zcp, zcq, zcr, zcs, zct, zcu, zcv, zcw, zcx, zcy, zcz, zda, zdb, zdc, zdd, zde, zdf, zdg, zdh, zdi, zdj, zdk, zdl, zdm, zdn, zdo, zdp, zdq, zdr, zds, Option.getD_some, Option.getD_none, zfg, zfh, zfi, zfj, zfk, zfl, zfm, zfn, Option.map_some, Option.map_none, Option.bind_some, List.map_cons, List.map_nil, List.cons_append, List.nil_append, ↓reduceIte, Nat.reduceEqDiff, Nat.reduceAdd, decide_true, decide_false, Bool.true_eq_false, Bool.false_eq_true, env0, List.getElem?_cons_zero, List.getElem?_cons_succ, zdt, zdu, zdv, zdw, zdx, zdy, zdz, zea, ia22, ld31, zeb, zec, zed, zee, zef, zeg, zeh, zei, zej, zek, zel, zem, zen, zeo, zep, fa_0, fa_1, zeq, bd_0, bd_2, zer, fd_1, zes, Nat.zero_add, zet, List.toList_toArray, len9, ix9, zeu, zev, zew, zex, zey, zeroT, encT, ldT_u, s_eqlS, w0, w1, w2, w3, c, zds, st_Tt, stT_6]
  exact finish_T2 _ _ _ _ _ u _ _ _ _ _ (by first | (simp only [zfn, ↓reduceIte, Nat.reduceEqDiff]; done) | (simp only [zfn, ↓reduceIte, Nat.reduceEqDiff]; rfl)) (by first | (simp only [zfn, ↓reduceIte, Nat.reduceEqDiff]; done) | (simp only [zfn, ↓reduceIte, Nat.reduceEqDiff]; rfl)) (by first | (simp only [zfn, ↓reduceIte, Nat.reduceEqDiff]; done) | (simp only [zfn, ↓reduceIte, Nat.reduceEqDiff]; rfl)) rfl
theorem ia_K2a (st : St) (t u : T) : indexAddrA Tryz.prog 22 st (.sl (cellsK [t, u]) 2 .tight) (.int .i64 0) = some (.rptr (cellsK [t, u])) := ia_K st [t, u] .tight 0 (Nat.zero_lt_succ _)
theorem ia_K2b (st : St) (t u : T) : indexAddrA Tryz.prog 22 st (.sl (cellsK [t, u]) 2 .tight) (.int .i64 1) = some (.rptr (cellsK [u])) := ia_K st [t, u] .tight 1 (Nat.lt_succ_self _)
set_option maxHeartbeats 4000000 in
theorem answer2_eq (R d : Nat) (name : List UInt8) (t t' u : T) (v : Bool) (h : evalFn Tryz.prog cfg0 R d 63 [.tree (.str name), .tree (encT t), .tree (encT t')] = some (.tree (.tup [encT u, .bool v]), [[], [], []])) :
    evalFn Tryz.prog cfg0 R (d+1) 34 [.tree (.str name), .tree (.sl (cellsK [t, t']) 2 .tight)] = some (.tree (.tup [encT u, .bool v]), [[], []]) := by
  rw [evalFn_go _ Tryz.func34 (by unfold Tryz.f34; rfl) (by unfold Tryz.f34; decide) (Nat.le_of_ble_eq_true (by unfold Tryz.f34; rfl)) (by kernel_rfl)]
  have c := callQ_trees (f := 63) (vs := [.str name, encT t, encT t']) rfl h
  simp only [encT] at c
  have q1 : (((2 : Nat) : Int) == 1) = false := rfl
  have q2 : (((2 : Nat) : Int) == 2) = true := rfl
  simp only [zaa, zab, zac, zad, zae, zaf, zag, zah, zai, zaj, zak, zal, zam, zan, zao, zap, zaq, zar, zas, zat, zau, zav, zaw, zax, zay, zaz, zba, zbb, zbc, zbd, zbe, zbf, zbg, zbh, zbi, zbj, zbk, zbl, zbm, zbn, zbo, zbp, zbq, Nat.reduceBEq, Bool.or_self, Bool.or_false, Bool.or_true, Bool.and_true, Bool.and_false, Bool.true_and, Bool.false_and, Option.isNone_none, Option.isNone_some, Option.isSome_some, Option.isSome_none, zbr, zbs, zbt, zbu, zbv, zbw, zbx, zby, zbz, zca, zcb, zcc, zcd, zce, zcf, zcg, zch, zci, zcj, zck, zcl, zcm, zcn, zco, zcp, zcq, zcr, zcs, zct, zcu, zcv, zcw, zcx, zcy, zcz, zda, zdb, zdc, zdd, zde, zdf, zdg, zdh, zdi, zdj, zdk, zdl, zdm, zdn, zdo, zdp, zdq, zdr, zds, Option.getD_some, Option.getD_none, zfg, zfh, zfi, zfj, zfk, zfl, zfm, zfn, Option.map_some, Option.map_none, Option.bind_some, List.map_cons, List.map_nil, List.cons_append, List.nil_append, ↓reduceIte, Nat.reduceEqDiff, Nat.reduceAdd, decide_true, decide_false, Bool.true_eq_false, Bool.false_eq_true, env0, List.getElem?_cons_zero, List.getElem?_cons_succ, zdt, zdu, zdv, zdw, zdx, zdy, zdz, zea, ia22, ld31, zeb, zec, zed, zee, zef, zeg, zeh, zei, zej, zek, zel, zem, zen, zeo, zep, fa_0, fa_1, zeq, bd_0, bd_2, zer, fd_1, zes, Nat.zero_add, zeroT, lenTk, i_eqlV, q1, q2, ia_K2a, ia_K2b, ld_K1, c, zds, st_Tt, stT_6]
  exact finish_T2 _ _ _ _ _ u _ _ _ _ _ (by first | (simp only [zfn, ↓reduceIte, Nat.reduceEqDiff]; done) | (simp only [zfn, ↓reduceIte, Nat.reduceEqDiff]; rfl)) (by first | (simp only [zfn, ↓reduceIte, Nat.reduceEqDiff]; done) | (simp only [zfn, ↓reduceIte, Nat.reduceEqDiff]; rfl)) (by first | (simp only [zfn, ↓reduceIte, Nat.reduceEqDiff]; done) | (simp only [zfn, ↓reduceIte, Nat.reduceEqDiff]; rfl)) rfl
set_option maxHeartbeats 4000000 in
theorem call2_eq (R d : Nat) (name : List UInt8) (t t' u : T) (h1 : evalFn Tryz.prog cfg0 R d 12 [.tree (.str sErl), .tree (.str name), .tree (.int .i64 2)] = some (.tree (.bool true), [[], [], []]))
    (h2 : evalFn Tryz.prog cfg0 R d 33 [.tree (.sl throws 3 .tight), .tree (.str name)] = some (.tree (.bool false), [[], []]))
    (h3 : evalFn Tryz.prog cfg0 R d 34 [.tree (.str name), .tree (.sl (cellsK [t, t']) 2 .tight)] = some (.tree (.tup [encT u, .bool true]), [[], []]))
    (h4 : evalFn Tryz.prog cfg0 R d 35 [.tree (encT u)] = some (.tree (.int .i64 (nodT u : Int)), [[]])) (h5 : nodT u ≤ 2000) :
    evalFn Tryz.prog cfg0 R (d+1) 8 [.tree (.str sErl), .tree (.str name), .tree (.sl (cellsK [t, t']) 2 .tight)] = some (.tree (.tup [encT u, .agg zErr, .bool true]), [[], [], []]) := by
  rw [evalFn_goP _ Tryz.func8 (by unfold Tryz.f8; rfl) (by unfold Tryz.f8; decide) (Nat.le_of_ble_eq_true (by unfold Tryz.f8; rfl)) (by kernel_rfl)]
  have c1 := fun D st => callA_trees (cfg := cfg0) (d := D) (s := st) (f := 12) (vs := [.str sErl, .str name, .int .i64 2]) rfl h1
  have c2 := fun D st => callA_trees (cfg := cfg0) (d := D) (s := st) (f := 33) (vs := [.sl throws 3 .tight, .str name]) rfl h2
  simp only [throws] at c2
  have c3 := fun D st => callA_trees (cfg := cfg0) (d := D) (s := st) (f := 34) (vs := [.str name, .sl (cellsK [t, t']) 2 .tight]) rfl h3
  have c4 := fun D st => callA_trees (cfg := cfg0) (d := D) (s := st) (f := 35) (vs := [encT u]) rfl h4
  simp only [encT] at c3 c4
  have e1 : ((2 : Nat) : Int) = 2 := rfl
  have w5 : (sErl == ([101, 114, 108, 97, 110, 103] : List UInt8)) = true := by decide
  have q1 : ¬ ((nodT u : Int) > 2000) := by omega
  simp only [prune_seq, prune_cond, prune_block, prune_loop, prune_scope, prune_text, prune_skip, prune_ret, prune_exit, zaa, zab, zac, zad, zae, zaf, zag, zah, zai, zaj, zak, zal, zam, zan, zao, zap, zaq, zar, zas, zat, zau, zav, zaw, zax, zay, zaz, zba, zbb, zbc, zbd, zbe, zbf, zbg, zbh, zbi, zbj, zbk, zbl, zbm, zbn, zbo, zbp, zbq, Nat.reduceBEq, Bool.or_self, Bool.or_false, Bool.or_true, Bool.and_true, Bool.and_false, Bool.true_and, Bool.false_and, Option.isNone_none, Option.isNone_some, Option.isSome_some, Option.isSome_none, zbr, zbs, zbt, zbu, zbv, zbw, zbx, zby, zbz, zca, zcb, zcc, zcd, zce, zcf, zcg, zch, zci, zcj, zck, zcl, zcm, zcn, zco, zcp, zcq, zcr, zcs, zct, zcu, zcv, zcw, zcx, zcy, zcz, zda, zdb, zdc, zdd, zde, zdf, zdg, zdh, zdi, zdj, zdk, zdl, zdm, zdn, zdo, zdp, zdq, zdr, zds, Option.getD_some, Option.getD_none, zfg, zfh, zfi, zfj, zfk, zfl, zfm, zfn, Option.map_some, Option.map_none, Option.bind_some, List.map_cons, List.map_nil, List.cons_append, List.nil_append, ↓reduceIte, Nat.reduceEqDiff, Nat.reduceAdd, decide_true, decide_false, Bool.true_eq_false, Bool.false_eq_true, env0, List.getElem?_cons_zero, List.getElem?_cons_succ, zdt, zdu, zdv, zdw, zdx, zdy, zdz, zea, ia22, ld31, zeb, zec, zed, zee, zef, zeg, zeh, zei, zej, zek, zel, zem, zen, zeo, zep, fa_0, fa_1, zeq, bd_0, bd_2, zer, fd_1, zes, Nat.zero_add, zet, List.toList_toArray, len9, ix9, zeu, zev, zew, zex, zey, zeroT, zeroE, lenTk, e1, i_eqlV, s_eqlS, w5, opA_three64, three64_str, c1, c2, c3, c4, unA_not', Bool.not_true, zds, q1, ldT_u, bdE_, st_Tt, stT_6, st_E, stE_z]
  exact finish_T3 _ _ _ _ _ u _ _ _ _ _ _ _ _ (by first | (simp only [zfn, ↓reduceIte, Nat.reduceEqDiff]; done) | (simp only [zfn, ↓reduceIte, Nat.reduceEqDiff]; rfl)) (by first | (simp only [zfn, ↓reduceIte, Nat.reduceEqDiff]; done) | (simp only [zfn, ↓reduceIte, Nat.reduceEqDiff]; rfl)) (by first | (simp only [zfn, ↓reduceIte, Nat.reduceEqDiff]; done) | (simp only [zfn, ↓reduceIte, Nat.reduceEqDiff]; rfl)) (by first | (simp only [zfn, ↓reduceIte, Nat.reduceEqDiff]; done) | (simp only [zfn, ↓reduceIte, Nat.reduceEqDiff]; rfl)) (by first | (simp only [zfn, ↓reduceIte, Nat.reduceEqDiff]; done) | (simp only [zfn, ↓reduceIte, Nat.reduceEqDiff]; rfl)) rfl
set_option maxHeartbeats 4000000 in
theorem callL_eq (R d : Nat) (name : List UInt8) (t t' u : T) (h1 : evalFn Tryz.prog cfg0 R d 12 [.tree (.str sLists), .tree (.str name), .tree (.int .i64 2)] = some (.tree (.bool true), [[], [], []]))
    (h3 : evalFn Tryz.prog cfg0 R d 34 [.tree (.str name), .tree (.sl (cellsK [t, t']) 2 .tight)] = some (.tree (.tup [encT u, .bool true]), [[], []]))
    (h4 : evalFn Tryz.prog cfg0 R d 35 [.tree (encT u)] = some (.tree (.int .i64 (nodT u : Int)), [[]])) (h5 : nodT u ≤ 2000) :
    evalFn Tryz.prog cfg0 R (d+1) 8 [.tree (.str sLists), .tree (.str name), .tree (.sl (cellsK [t, t']) 2 .tight)] = some (.tree (.tup [encT u, .agg zErr, .bool true]), [[], [], []]) := by
  rw [evalFn_goP _ Tryz.func8 (by unfold Tryz.f8; rfl) (by unfold Tryz.f8; decide) (Nat.le_of_ble_eq_true (by unfold Tryz.f8; rfl)) (by kernel_rfl)]
  have c1 := fun D st => callA_trees (cfg := cfg0) (d := D) (s := st) (f := 12) (vs := [.str sLists, .str name, .int .i64 2]) rfl h1
  have c3 := fun D st => callA_trees (cfg := cfg0) (d := D) (s := st) (f := 34) (vs := [.str name, .sl (cellsK [t, t']) 2 .tight]) rfl h3
  have c4 := fun D st => callA_trees (cfg := cfg0) (d := D) (s := st) (f := 35) (vs := [encT u]) rfl h4
  simp only [encT] at c3 c4
  have e1 : ((2 : Nat) : Int) = 2 := rfl
  have w5 : (sLists == ([101, 114, 108, 97, 110, 103] : List UInt8)) = false := by decide
  have q1 : ¬ ((nodT u : Int) > 2000) := by omega
  simp only [prune_seq, prune_cond, prune_block, prune_loop, prune_scope, prune_text, prune_skip, prune_ret, prune_exit, zaa, zab, zac, zad, zae, zaf, zag, zah, zai, zaj, zak, zal, zam, zan, zao, zap, zaq, zar, zas, zat, zau, zav, zaw, zax, zay, zaz, zba, zbb, zbc, zbd, zbe, zbf, zbg, zbh, zbi, zbj, zbk, zbl, zbm, zbn, zbo, zbp, zbq, Nat.reduceBEq, Bool.or_self, Bool.or_false, Bool.or_true, Bool.and_true, Bool.and_false, Bool.true_and, Bool.false_and, Option.isNone_none, Option.isNone_some, Option.isSome_some, Option.isSome_none, zbr, zbs, zbt, zbu, zbv, zbw, zbx, zby, zbz, zca, zcb, zcc, zcd, zce, zcf, zcg, zch, zci, zcj, zck, zcl, zcm, zcn, zco, zcp, zcq, zcr, zcs, zct, zcu, zcv, zcw, zcx, zcy, zcz, zda, zdb, zdc, zdd, zde, zdf, zdg, zdh, zdi, zdj, zdk, zdl, zdm, zdn, zdo, zdp, zdq, zdr, zds, Option.getD_some, Option.getD_none, zfg, zfh, zfi, zfj, zfk, zfl, zfm, zfn, Option.map_some, Option.map_none, Option.bind_some, List.map_cons, List.map_nil, List.cons_append, List.nil_append, ↓reduceIte, Nat.reduceEqDiff, Nat.reduceAdd, decide_true, decide_false, Bool.true_eq_false, Bool.false_eq_true, env0, List.getElem?_cons_zero, List.getElem?_cons_succ, zdt, zdu, zdv, zdw, zdx, zdy, zdz, zea, ia22, ld31, zeb, zec, zed, zee, zef, zeg, zeh, zei, zej, zek, zel, zem, zen, zeo, zep, fa_0, fa_1, zeq, bd_0, bd_2, zer, fd_1, zes, Nat.zero_add, zet, List.toList_toArray, len9, ix9, zeu, zev, zew, zex, zey, zeroT, zeroE, lenTk, e1, i_eqlV, s_eqlS, w5, opA_three64, three64_str, c1, c3, c4, unA_not', Bool.not_true, zds, q1, ldT_u, bdE_, st_Tt, stT_6, st_E, stE_z]
  exact finish_T3 _ _ _ _ _ u _ _ _ _ _ _ _ _ (by first | (simp only [zfn, ↓reduceIte, Nat.reduceEqDiff]; done) | (simp only [zfn, ↓reduceIte, Nat.reduceEqDiff]; rfl)) (by first | (simp only [zfn, ↓reduceIte, Nat.reduceEqDiff]; done) | (simp only [zfn, ↓reduceIte, Nat.reduceEqDiff]; rfl)) (by first | (simp only [zfn, ↓reduceIte, Nat.reduceEqDiff]; done) | (simp only [zfn, ↓reduceIte, Nat.reduceEqDiff]; rfl)) (by first | (simp only [zfn, ↓reduceIte, Nat.reduceEqDiff]; done) | (simp only [zfn, ↓reduceIte, Nat.reduceEqDiff]; rfl)) (by first | (simp only [zfn, ↓reduceIte, Nat.reduceEqDiff]; done) | (simp only [zfn, ↓reduceIte, Nat.reduceEqDiff]; rfl)) rfl
end Go.Ab

/- relictlaw19.few, relictref03.Nodes; slices of rows of terms, put behind one another. Conditions: lengths in range. -/
namespace Go.Ab
open Go.Proofs
set_option maxRecDepth 100000
set_option linter.unusedSimpArgs false

def fewR : Nat → List T → Bool
  | 0, _ => true
  | _ + 1, [] => true
  | n + 1, t :: r => decide (lgT t 100 ≥ 0) && fewR n r
theorem fewR_nil (n : Nat) : fewR n [] = true := by cases n <;> rfl
theorem fewR_all : ∀ (n : Nat) (ks : List T), fewR n ks = true → ks.length ≤ n → ∀ t ∈ ks, lgT t 100 ≥ 0
  | _, [], _, _, t, h => by cases h
  | 0, _ :: _, _, hl, _, _ => by simp at hl
  | n + 1, x :: r, h, hl, t, ht => by
    simp only [fewR, Bool.and_eq_true, decide_eq_true_eq] at h
    rcases List.mem_cons.mp ht with rfl | ht
    · exact h.1
    · exact fewR_all n r h.2 (by simpa using hl) t ht
set_option maxHeartbeats 4000000 in
theorem fewB_eq (R d : Nat) (hR : 2000 ≤ R) (hR2 : R ≤ 9223372036854775808) (hd : 103 ≤ d) (ks : List T) (g : Grip) (hb : bigK R ks) (hf : fewK R ks) :
    evalFn Tryz.prog cfg0 R (d+1) 6 [.tree (.sl (cellsK ks) ks.length g)] = some (.tree (.bool (fewR 12 ks && decide (ks.length ≤ 12))), [[]]) := by
  rw [evalFn_go _ Tryz.func6 (by unfold Tryz.f6; rfl) (by unfold Tryz.f6; decide) (Nat.le_of_ble_eq_true (by unfold Tryz.f6; rfl)) (by kernel_rfl)]
  obtain ⟨d', rfl⟩ : ∃ d', d = d' + 1 := ⟨d - 1, by omega⟩
  simp only [zaa, zab, zac, zad, zae, zaf, zag, zah, zai, zaj, zak, zal, zam, zan, zao, zap, zaq, zar, zas, zat, zau, zav, zaw, zax, zay, zaz, zba, zbb, zbc, zbd, zbe, zbf, zbg, zbh, zbi, zbj, zbk, zbl, zbm, zbn, zbo, zbp, zbq, Nat.reduceBEq, Bool.or_self, Bool.or_false, Bool.or_true, Bool.and_true, Bool.and_false, Bool.true_and, Bool.false_and, Option.isNone_none, Option.isNone_some, Option.isSome_some, Option.isSome_none, zbr, zbs, zbt, zbu, zbv, zbw, zbx, zby, zbz, zca, zcb, zcc, zcd, zce, zcf, zcg, zch, zci, zcj, zck, zcl, zcm, zcn, zco, zcp, zcq, zcr, zcs, zct, zcu, zcv, zcw, zcx, zcy, zcz, zda, zdb, zdc, zdd, zde, zdf, zdg, zdh, zdi, zdj, zdk, zdl, zdm, zdn, zdo, zdp, zdq, zdr, zds, Option.getD_some, Option.getD_none, zfg, zfh, zfi, zfj, zfk, zfl, zfm, zfn, Option.map_some, Option.map_none, Option.bind_some, List.map_cons, List.map_nil, List.cons_append, List.nil_append, ↓reduceIte, Nat.reduceEqDiff, Nat.reduceAdd, decide_true, decide_false, Bool.true_eq_false, Bool.false_eq_true, env0, List.getElem?_cons_zero, List.getElem?_cons_succ, zdt, zdu, zdv, zdw, zdx, zdy, zdz, zea, ia22, ld31, zeb, zec, zed, zee, zef, zeg, zeh, zei, zej, zek, zel, zem, zen, zeo, zep, fa_0, fa_1, zeq, bd_0, bd_2, zer, fd_1, zes, Nat.zero_add, den_loop]
  refine loop_ends (X := Nat) (fun i env st => env 0 = .sl (cellsK ks) ks.length g ∧ env 3 = .int .i64 (i : Int) ∧ i ≤ ks.length ∧ i ≤ 12 ∧ fewR (12 - i) (ks.drop i) = fewR 12 ks) (fun i => 12 - i) (fun _ => (.tree (.bool (fewR 12 ks && decide (ks.length ≤ 12))), [[]])) ?_ R 0 _ _ (by omega) ⟨(by first | (simp only [zfn, ↓reduceIte, Nat.reduceEqDiff, env0, List.getElem?_cons_zero]; done) | (simp only [zfn, ↓reduceIte, Nat.reduceEqDiff, env0, List.getElem?_cons_zero]; rfl)), (by first | (simp only [zfn, ↓reduceIte, Nat.reduceEqDiff]; done) | (simp only [zfn, ↓reduceIte, Nat.reduceEqDiff]; rfl)), Nat.zero_le _, Nat.zero_le _, rfl⟩
  intro rr i hr ih env st ⟨e0, e3, hi, hi2, hc⟩
  cases hdr : ks.drop i with
  | nil =>
    have hil : i = ks.length := by have := congrArg List.length hdr; simp only [List.length_drop, List.length_nil] at this; omega
    have q1 : ¬ (i : Int) < (ks.length : Int) := by omega
    have q2 : (ks.length : Int) ≤ 12 := by omega
    have q3 : ks.length ≤ 12 := by omega
    rw [hdr, fewR_nil] at hc
    rw [← hc]
    simp only [zaa, zab, zac, zad, zae, zaf, zag, zah, zai, zaj, zak, zal, zam, zan, zao, zap, zaq, zar, zas, zat, zau, zav, zaw, zax, zay, zaz, zba, zbb, zbc, zbd, zbe, zbf, zbg, zbh, zbi, zbj, zbk, zbl, zbm, zbn, zbo, zbp, zbq, Nat.reduceBEq, Bool.or_self, Bool.or_false, Bool.or_true, Bool.and_true, Bool.and_false, Bool.true_and, Bool.false_and, Option.isNone_none, Option.isNone_some, Option.isSome_some, Option.isSome_none, zbr, zbs, zbt, zbu, zbv, zbw, zbx, zby, zbz, zca, zcb, zcc, zcd, zce, zcf, zcg, zch, zci, zcj, zck, zcl, zcm, zcn, zco, zcp, zcq, zcr, zcs, zct, zcu, zcv, zcw, zcx, zcy, zcz, zda, zdb, zdc, zdd, zde, zdf, zdg, zdh, zdi, zdj, zdk, zdl, zdm, zdn, zdo, zdp, zdq, zdr, zds, Option.getD_some, Option.getD_none, zfg, zfh, zfi, zfj, zfk, zfl, zfm, zfn, Option.map_some, Option.map_none, Option.bind_some, List.map_cons, List.map_nil, List.cons_append, List.nil_append, ↓reduceIte, Nat.reduceEqDiff, Nat.reduceAdd, decide_true, decide_false, Bool.true_eq_false, Bool.false_eq_true, zdt, zdu, zdv, zdw, zdx, zdy, zdz, zea, ia22, ld31, zeb, zec, zed, zee, zef, zeg, zeh, zei, zej, zek, zel, zem, zen, zeo, zep, fa_0, fa_1, zeq, bd_0, bd_2, zer, fd_1, zes, Nat.zero_add, e0, e3, lenTk, q1, q2, q3]
    exact finish_b _ _ _ _ _ _ _ (by first | (simp only [zfn, ↓reduceIte, Nat.reduceEqDiff]; done) | (simp only [zfn, ↓reduceIte, Nat.reduceEqDiff]; rfl)) rfl
  | cons kid r =>
    have hil : i < ks.length := by have := congrArg List.length hdr; simp only [List.length_drop, List.length_cons] at this; omega
    have q1 : (i : Int) < (ks.length : Int) := by omega
    by_cases h12 : i = 12
    · have q2 : ¬ (i : Int) < 12 := by omega
      have q3 : ¬ ((ks.length : Int) ≤ 12) := by omega
      have q4 : ¬ (ks.length ≤ 12) := by omega
      rw [decide_eq_false q4, Bool.and_false]
      simp only [zaa, zab, zac, zad, zae, zaf, zag, zah, zai, zaj, zak, zal, zam, zan, zao, zap, zaq, zar, zas, zat, zau, zav, zaw, zax, zay, zaz, zba, zbb, zbc, zbd, zbe, zbf, zbg, zbh, zbi, zbj, zbk, zbl, zbm, zbn, zbo, zbp, zbq, Nat.reduceBEq, Bool.or_self, Bool.or_false, Bool.or_true, Bool.and_true, Bool.and_false, Bool.true_and, Bool.false_and, Option.isNone_none, Option.isNone_some, Option.isSome_some, Option.isSome_none, zbr, zbs, zbt, zbu, zbv, zbw, zbx, zby, zbz, zca, zcb, zcc, zcd, zce, zcf, zcg, zch, zci, zcj, zck, zcl, zcm, zcn, zco, zcp, zcq, zcr, zcs, zct, zcu, zcv, zcw, zcx, zcy, zcz, zda, zdb, zdc, zdd, zde, zdf, zdg, zdh, zdi, zdj, zdk, zdl, zdm, zdn, zdo, zdp, zdq, zdr, zds, Option.getD_some, Option.getD_none, zfg, zfh, zfi, zfj, zfk, zfl, zfm, zfn, Option.map_some, Option.map_none, Option.bind_some, List.map_cons, List.map_nil, List.cons_append, List.nil_append, ↓reduceIte, Nat.reduceEqDiff, Nat.reduceAdd, decide_true, decide_false, Bool.true_eq_false, Bool.false_eq_true, zdt, zdu, zdv, zdw, zdx, zdy, zdz, zea, ia22, ld31, zeb, zec, zed, zee, zef, zeg, zeh, zei, zej, zek, zel, zem, zen, zeo, zep, fa_0, fa_1, zeq, bd_0, bd_2, zer, fd_1, zes, Nat.zero_add, e0, e3, lenTk, q1, q2, q3]
      exact finish_b _ _ _ _ _ _ _ (by first | (simp only [zfn, ↓reduceIte, Nat.reduceEqDiff]; done) | (simp only [zfn, ↓reduceIte, Nat.reduceEqDiff]; rfl)) rfl
    have q2 : (i : Int) < 12 := by omega
    obtain ⟨n, hn⟩ : ∃ n, 12 - i = n + 1 := ⟨11 - i, by omega⟩
    rw [hdr, hn] at hc
    simp only [fewR] at hc
    have kb := bigK_at R ks i kid r hdr hb
    have kf := fewK_at R ks i kid r hdr hf
    have cli := fun D st => callA_trees (cfg := cfg0) (d := D) (s := st) (f := 31) (vs := [encT kid, .int .i64 100]) rfl (Light_eq R hR hR2 d' kid 100 (by decide) (by decide) (by omega) kb kf)
    have ia := fun st => ia_K st ks g i hil
    rw [hdr] at ia
    have ld := fun st => ld_K st kid r
    simp only [encT] at cli ld
    by_cases hg : lgT kid 100 ≥ 0
    · rw [decide_eq_true hg] at cli hc
      rw [Bool.true_and] at hc
      have f5 := i_add Tryz.prog 3 (i : Int) 1 (by omega) (by omega)
      simp only [zaa, zab, zac, zad, zae, zaf, zag, zah, zai, zaj, zak, zal, zam, zan, zao, zap, zaq, zar, zas, zat, zau, zav, zaw, zax, zay, zaz, zba, zbb, zbc, zbd, zbe, zbf, zbg, zbh, zbi, zbj, zbk, zbl, zbm, zbn, zbo, zbp, zbq, Nat.reduceBEq, Bool.or_self, Bool.or_false, Bool.or_true, Bool.and_true, Bool.and_false, Bool.true_and, Bool.false_and, Option.isNone_none, Option.isNone_some, Option.isSome_some, Option.isSome_none, zbr, zbs, zbt, zbu, zbv, zbw, zbx, zby, zbz, zca, zcb, zcc, zcd, zce, zcf, zcg, zch, zci, zcj, zck, zcl, zcm, zcn, zco, zcp, zcq, zcr, zcs, zct, zcu, zcv, zcw, zcx, zcy, zcz, zda, zdb, zdc, zdd, zde, zdf, zdg, zdh, zdi, zdj, zdk, zdl, zdm, zdn, zdo, zdp, zdq, zdr, zds, Option.getD_some, Option.getD_none, zfg, zfh, zfi, zfj, zfk, zfl, zfm, zfn, Option.map_some, Option.map_none, Option.bind_some, List.map_cons, List.map_nil, List.cons_append, List.nil_append, ↓reduceIte, Nat.reduceEqDiff, Nat.reduceAdd, decide_true, decide_false, Bool.true_eq_false, Bool.false_eq_true, zdt, zdu, zdv, zdw, zdx, zdy, zdz, zea, ia22, ld31, zeb, zec, zed, zee, zef, zeg, zeh, zei, zej, zek, zel, zem, zen, zeo, zep, fa_0, fa_1, zeq, bd_0, bd_2, zer, fd_1, zes, Nat.zero_add, e0, e3, lenTk, q1, q2, ia, ld, cli, unA_not', Bool.not_true, f5]
      exact ih (i + 1) _ _ (by omega) rfl ⟨(by first | (simp only [zfn, ↓reduceIte, Nat.reduceEqDiff, e0]; done) | (simp only [zfn, ↓reduceIte, Nat.reduceEqDiff, e0]; rfl)), (by first | (simp only [zfn, ↓reduceIte, Nat.reduceEqDiff]; done) | (simp only [zfn, ↓reduceIte, Nat.reduceEqDiff]; rfl)), by omega, by omega, by rw [drop_next hdr, show 12 - (i + 1) = n by omega]; exact hc⟩
    · rw [decide_eq_false hg] at cli hc
      rw [Bool.false_and] at hc
      rw [← hc, Bool.false_and]
      simp only [zaa, zab, zac, zad, zae, zaf, zag, zah, zai, zaj, zak, zal, zam, zan, zao, zap, zaq, zar, zas, zat, zau, zav, zaw, zax, zay, zaz, zba, zbb, zbc, zbd, zbe, zbf, zbg, zbh, zbi, zbj, zbk, zbl, zbm, zbn, zbo, zbp, zbq, Nat.reduceBEq, Bool.or_self, Bool.or_false, Bool.or_true, Bool.and_true, Bool.and_false, Bool.true_and, Bool.false_and, Option.isNone_none, Option.isNone_some, Option.isSome_some, Option.isSome_none, zbr, zbs, zbt, zbu, zbv, zbw, zbx, zby, zbz, zca, zcb, zcc, zcd, zce, zcf, zcg, zch, zci, zcj, zck, zcl, zcm, zcn, zco, zcp, zcq, zcr, zcs, zct, zcu, zcv, zcw, zcx, zcy, zcz, zda, zdb, zdc, zdd, zde, zdf, zdg, zdh, zdi, zdj, zdk, zdl, zdm, zdn, zdo, zdp, zdq, zdr, zds, Option.getD_some, Option.getD_none, zfg, zfh, zfi, zfj, zfk, zfl, zfm, zfn, Option.map_some, Option.map_none, Option.bind_some, List.map_cons, List.map_nil, List.cons_append, List.nil_append, ↓reduceIte, Nat.reduceEqDiff, Nat.reduceAdd, decide_true, decide_false, Bool.true_eq_false, Bool.false_eq_true, zdt, zdu, zdv, zdw, zdx, zdy, zdz, zea, ia22, ld31, zeb, zec, zed, zee, zef, zeg, zeh, zei, zej, zek, zel, zem, zen, zeo, zep, fa_0, fa_1, zeq, bd_0, bd_2, zer, fd_1, zes, Nat.zero_add, e0, e3, lenTk, q1, q2, ia, ld, cli, unA_not', Bool.not_false]
      exact finish_b _ _ _ _ _ _ _ (by first | (simp only [zfn, ↓reduceIte, Nat.reduceEqDiff]; done) | (simp only [zfn, ↓reduceIte, Nat.reduceEqDiff]; rfl)) rfl
set_option maxHeartbeats 4000000 in
theorem rnodes_eq (n : Nat) (hn2 : n ≤ 1000000) : ∀ (d : Nat) (t : T), htT t ≤ d → nodT t < n →
    evalFn Tryz.prog cfg0 n d 17 [.tree (encT t)] = some (.tree (.int .i64 (nodT t : Int)), [[]])
  | 0, t, hd, hnd => by obtain ⟨k, b, lg, l, s, m, kg, ks⟩ := t; simp only [htT] at hd; omega
  | d + 1, t, hd, hnd => by
    have IH := rnodes_eq n hn2 d
    rw [evalFn_go _ Tryz.func17 (by unfold Tryz.f17; rfl) (by unfold Tryz.f17; decide) (Nat.le_of_ble_eq_true (by unfold Tryz.f17; rfl)) (by kernel_rfl)]
    obtain ⟨k, b, lg, l, s, m, kg, ks⟩ := t
    simp only [htT] at hd
    simp only [nodT] at hnd ⊢
    simp only [zaa, zab, zac, zad, zae, zaf, zag, zah, zai, zaj, zak, zal, zam, zan, zao, zap, zaq, zar, zas, zat, zau, zav, zaw, zax, zay, zaz, zba, zbb, zbc, zbd, zbe, zbf, zbg, zbh, zbi, zbj, zbk, zbl, zbm, zbn, zbo, zbp, zbq, Nat.reduceBEq, Bool.or_self, Bool.or_false, Bool.or_true, Bool.and_true, Bool.and_false, Bool.true_and, Bool.false_and, Option.isNone_none, Option.isNone_some, Option.isSome_some, Option.isSome_none, zbr, zbs, zbt, zbu, zbv, zbw, zbx, zby, zbz, zca, zcb, zcc, zcd, zce, zcf, zcg, zch, zci, zcj, zck, zcl, zcm, zcn, zco, zcp, zcq, zcr, zcs, zct, zcu, zcv, zcw, zcx, zcy, zcz, zda, zdb, zdc, zdd, zde, zdf, zdg, zdh, zdi, zdj, zdk, zdl, zdm, zdn, zdo, zdp, zdq, zdr, zds, Option.getD_some, Option.getD_none, zfg, zfh, zfi, zfj, zfk, zfl, zfm, zfn, Option.map_some, Option.map_none, Option.bind_some, List.map_cons, List.map_nil, List.cons_append, List.nil_append, ↓reduceIte, Nat.reduceEqDiff, Nat.reduceAdd, decide_true, decide_false, Bool.true_eq_false, Bool.false_eq_true, env0, List.getElem?_cons_zero, List.getElem?_cons_succ, zed, zee, zef, zeg, zeh, zei, zej, zek, zel, zem, zen, zeo, zep, fa_0, fa_1, zeq, bd_0, bd_2, zer, fd_1, zes, Nat.zero_add, encT, cellsT, den_loop]
    refine loop_ends (X := Nat) (fun i env s' => env 1 = .ptr 1 1 0 ∧ s' 1 = ⟨1, .buf (cellsT (.mk k b lg l s m kg ks))⟩ ∧ env 4 = .int .i64 (i : Int) ∧ env 3 = .int .i64 ((nodK (ks.take i) + 1 : Nat) : Int) ∧ i ≤ ks.length) (fun i => ks.length - i) (fun _ => (.tree (.int .i64 ((nodK ks + 1 : Nat) : Int)), [[]])) ?_ n 0 _ _ (by have := nodK_len ks; omega) ⟨(by first | (simp only [zfn, ↓reduceIte, Nat.reduceEqDiff]; done) | (simp only [zfn, ↓reduceIte, Nat.reduceEqDiff]; rfl)), by simp only [cellsT]; exact (by first | (simp only [zfn, ↓reduceIte, Nat.reduceEqDiff]; done) | (simp only [zfn, ↓reduceIte, Nat.reduceEqDiff]; rfl)), (by first | (simp only [zfn, ↓reduceIte, Nat.reduceEqDiff]; done) | (simp only [zfn, ↓reduceIte, Nat.reduceEqDiff]; rfl)), (by first | (simp only [zfn, ↓reduceIte, Nat.reduceEqDiff]; done) | (simp only [zfn, ↓reduceIte, Nat.reduceEqDiff]; rfl)), Nat.zero_le _⟩
    rintro rr i hrr ih2 env st ⟨e1, j1, e4, e3, hi⟩
    simp only [cellsT] at j1
    cases hdr : ks.drop i with
    | nil =>
      have hil : i = ks.length := by have := congrArg List.length hdr; simp only [List.length_drop, List.length_nil] at this; omega
      subst hil
      rw [List.take_length] at e3
      have q1 : ¬ ((ks.length : Int) < (ks.length : Int)) := by omega
      simp only [zaa, zab, zac, zad, zae, zaf, zag, zah, zai, zaj, zak, zal, zam, zan, zao, zap, zaq, zar, zas, zat, zau, zav, zaw, zax, zay, zaz, zba, zbb, zbc, zbd, zbe, zbf, zbg, zbh, zbi, zbj, zbk, zbl, zbm, zbn, zbo, zbp, zbq, Nat.reduceBEq, Bool.or_self, Bool.or_false, Bool.or_true, Bool.and_true, Bool.and_false, Bool.true_and, Bool.false_and, Option.isNone_none, Option.isNone_some, Option.isSome_some, Option.isSome_none, zbr, zbs, zbt, zbu, zbv, zbw, zbx, zby, zbz, zca, zcb, zcc, zcd, zce, zcf, zcg, zch, zci, zcj, zck, zcl, zcm, zcn, zco, zcp, zcq, zcr, zcs, zct, zcu, zcv, zcw, zcx, zcy, zcz, zda, zdb, zdc, zdd, zde, zdf, zdg, zdh, zdi, zdj, zdk, zdl, zdm, zdn, zdo, zdp, zdq, zdr, zds, Option.getD_some, Option.getD_none, zfg, zfh, zfi, zfj, zfk, zfl, zfm, zfn, Option.map_some, Option.map_none, Option.bind_some, List.map_cons, List.map_nil, List.cons_append, List.nil_append, ↓reduceIte, Nat.reduceEqDiff, Nat.reduceAdd, decide_true, decide_false, Bool.true_eq_false, Bool.false_eq_true, zdt, zdu, zdv, zdw, zdx, zdy, zdz, zea, ia22, ld31, zeb, zec, zed, zee, zef, zeg, zeh, zei, zej, zek, zel, zem, zen, zeo, zep, fa_0, fa_1, zeq, bd_0, bd_2, zer, fd_1, zes, Nat.zero_add, e1, j1, e4, e3, faT_4, ldT_4, Nat.reduceAdd, lenTk, q1]
      exact finish_i _ _ _ _ _ _ _ (by first | (simp only [zfn, ↓reduceIte, Nat.reduceEqDiff]; done) | (simp only [zfn, ↓reduceIte, Nat.reduceEqDiff]; rfl)) rfl
    | cons kid r =>
      have hil : i < ks.length := by have := congrArg List.length hdr; simp only [List.length_drop, List.length_cons] at this; omega
      have kh := kids_ht ks i kid r hdr
      have kn := kids_nod ks i kid r hdr
      have ht : ks.take (i + 1) = ks.take i ++ [kid] := by
        rw [List.take_add_one]
        congr 1
        have : ks[i]? = some kid := by rw [← Nat.add_zero i, ← List.getElem?_drop, hdr]; rfl
        rw [this]; rfl
      have hle : nodK (ks.take (i + 1)) ≤ nodK ks := nodK_take ks (i + 1)
      have hsum : nodK (ks.take (i + 1)) = nodK (ks.take i) + nodT kid := by
        rw [ht, nodK_app]; simp only [nodK]; omega
      have q1 : (i : Int) < (ks.length : Int) := by omega
      have f5 := i_add Tryz.prog 3 (i : Int) 1 (by omega) (by have := nodK_len ks; omega)
      have f6 := i_add Tryz.prog 3 ((nodK (ks.take i) + 1 : Nat) : Int) (nodT kid : Int) (by omega) (by omega)
      have cc := fun D st => callA_trees (cfg := cfg0) (d := D) (s := st) (f := 17) (vs := [encT kid]) rfl (IH kid (by omega) (by omega))
      have ia := fun st => ia_K st ks (gr kg) i hil
      rw [hdr] at ia
      have ld := fun st => ld_K st kid r
      simp only [encT] at cc ld
      simp only [zaa, zab, zac, zad, zae, zaf, zag, zah, zai, zaj, zak, zal, zam, zan, zao, zap, zaq, zar, zas, zat, zau, zav, zaw, zax, zay, zaz, zba, zbb, zbc, zbd, zbe, zbf, zbg, zbh, zbi, zbj, zbk, zbl, zbm, zbn, zbo, zbp, zbq, Nat.reduceBEq, Bool.or_self, Bool.or_false, Bool.or_true, Bool.and_true, Bool.and_false, Bool.true_and, Bool.false_and, Option.isNone_none, Option.isNone_some, Option.isSome_some, Option.isSome_none, zbr, zbs, zbt, zbu, zbv, zbw, zbx, zby, zbz, zca, zcb, zcc, zcd, zce, zcf, zcg, zch, zci, zcj, zck, zcl, zcm, zcn, zco, zcp, zcq, zcr, zcs, zct, zcu, zcv, zcw, zcx, zcy, zcz, zda, zdb, zdc, zdd, zde, zdf, zdg, zdh, zdi, zdj, zdk, zdl, zdm, zdn, zdo, zdp, zdq, zdr, zds, Option.getD_some, Option.getD_none, zfg, zfh, zfi, zfj, zfk, zfl, zfm, zfn, Option.map_some, Option.map_none, Option.bind_some, List.map_cons, List.map_nil, List.cons_append, List.nil_append, ↓reduceIte, Nat.reduceEqDiff, Nat.reduceAdd, decide_true, decide_false, Bool.true_eq_false, Bool.false_eq_true, zdt, zdu, zdv, zdw, zdx, zdy, zdz, zea, ia22, ld31, zeb, zec, zed, zee, zef, zeg, zeh, zei, zej, zek, zel, zem, zen, zeo, zep, fa_0, fa_1, zeq, bd_0, bd_2, zer, fd_1, zes, Nat.zero_add, e1, j1, e4, e3, faT_4, ldT_4, Nat.reduceAdd, lenTk, q1, ia, ld, cc, f5, f6]
      have x1 : ((nodK (ks.take i) + 1 : Nat) : Int) + (nodT kid : Int) = ((nodK (ks.take (i + 1)) + 1 : Nat) : Int) := by omega
      rw [x1]
      exact ih2 (i + 1) _ _ (by omega) rfl ⟨(by first | (simp only [zfn, ↓reduceIte, Nat.reduceEqDiff, e1]; done) | (simp only [zfn, ↓reduceIte, Nat.reduceEqDiff, e1]; rfl)), by simp only [cellsT]; exact j1, (by first | (simp only [zfn, ↓reduceIte, Nat.reduceEqDiff]; done) | (simp only [zfn, ↓reduceIte, Nat.reduceEqDiff]; rfl)), (by first | (simp only [zfn, ↓reduceIte, Nat.reduceEqDiff]; done) | (simp only [zfn, ↓reduceIte, Nat.reduceEqDiff]; rfl)), by omega⟩
/-! ### Rows, sliced and put behind one another -/
theorem cellsK_tk (ks : List T) (i : Nat) : (cellsK ks).take (i * 6) = cellsK (ks.take i) := by
  by_cases h : i ≤ ks.length
  · have e : cellsK ks = cellsK (ks.take i) ++ cellsK (ks.drop i) := by rw [← cellsK_append, List.take_append_drop]
    have hl : (cellsK (ks.take i)).length = i * 6 := by rw [cellsK_len, List.length_take, Nat.min_eq_left h]
    rw [e, List.take_append_of_le_length (by omega), List.take_of_length_le (by omega)]
  · rw [List.take_of_length_le (by rw [cellsK_len]; omega), List.take_of_length_le (by omega)]
theorem slK_hi (st : St) (ks : List T) (k : Nat) (h : k ≤ ks.length) : sliceA Tryz.prog 22 st (.sl (cellsK ks) ks.length .loose) none (some (.int .i64 (k : Int))) none = some (.sl (cellsK (ks.take k)) (ks.take k).length .loose) := by
  have e := cellsK_tk ks k
  simp only [sliceA, tkTk, boundA, eszT, Option.bind_some, Option.isSome_none, Bool.false_eq_true, false_and, if_false]
  rw [if_pos ⟨by omega, by omega⟩]
  simp [cellsK_len, e, Nat.min_eq_left h]
theorem slK_lo (st : St) (ks : List T) (k : Nat) (h : k ≤ ks.length) : sliceA Tryz.prog 22 st (.sl (cellsK ks) ks.length .loose) (some (.int .i64 (k : Int))) none none = some (.sl (cellsK (ks.drop k)) (ks.drop k).length .loose) := by
  have e := cellsK_drop ks k
  have hl := cellsK_len ks
  simp only [sliceA, tkTk, boundA, eszT, Option.bind_some, Option.isSome_none, Bool.false_eq_true, false_and, if_false]
  rw [if_pos ⟨by omega, by omega⟩]
  simp only [Option.bind_some, Int.toNat_natCast]
  rw [if_pos hl, List.take_of_length_le (by omega), e]
  simp
theorem moreK (s : St) (vs : List T) (g : Grip) : moreA Tryz.prog 29 6 (some 22) s (.sl (cellsK vs) vs.length g) = some (cellsK vs, vs.length) := by
  simp only [moreA, Option.map_some, tkTk, cellsK_len, ↓reduceIte]
theorem roomK (n : Nat) (h : n ≤ 1000000) : n * byOf Tryz.prog 29 ≤ 140737488355328 ∧ n ≤ 9223372036854775807 := by
  have hb := of_decide_eq_true by28
  have : n * byOf Tryz.prog 29 ≤ 1000000 * 200 := Nat.mul_le_mul h hb
  omega
theorem appN (d : Nat) (s : St) (vs : List T) (g : Grip) (h : vs.length ≤ 1000000) : appendA Tryz.prog #[22, 22] d s (.sl [] 0 .nil) (.sl (cellsK vs) vs.length g) = some (.sl (cellsK vs) vs.length (.tok d ((s d).t + 1)), upd s d ⟨(s d).t + 1, .tok 6⟩) := by
  have hr := roomK vs.length h
  simp only [appendA, List.getElem?_toArray, List.getElem?_cons_zero, List.getElem?_cons_succ, Option.map_some, tkTk, eszT, Option.bind_some, moreK, baseA, List.length_nil, Nat.zero_mul, ↓reduceIte, zl28, and_true, Nat.zero_add, List.nil_append]
  rw [if_pos hr]
theorem appTk (d : Nat) (s : St) (us vs : List T) (g : Grip) (p t : Nat) (hs : s p = ⟨t, .tok 6⟩) (h : us.length + vs.length ≤ 1000000) : appendA Tryz.prog #[22, 22] d s (.sl (cellsK us) us.length (.tok p t)) (.sl (cellsK vs) vs.length g) = some (.sl (cellsK (us ++ vs)) (us ++ vs).length (.tok d ((upd s p ⟨t, .dead⟩ d).t + 1)), upd (upd s p ⟨t, .dead⟩) d ⟨(upd s p ⟨t, .dead⟩ d).t + 1, .tok 6⟩) := by
  have hr := roomK (us.length + vs.length) h
  simp only [appendA, List.getElem?_toArray, List.getElem?_cons_zero, List.getElem?_cons_succ, Option.map_some, tkTk, eszT, Option.bind_some, moreK, baseA, hs, cellsK_len, and_self, ↓reduceIte, zl28, and_true]
  rw [if_pos hr, cellsK_append, List.length_append]
end Go.Ab
