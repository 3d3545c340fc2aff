/- Several texts put together: AbbT14, AbbT15, AbbT16, AbMono, AbbT17, AbbT18, AbbT19, AbbR1, AbbR2, AbbR3, AbbR4, AbbR5, AbbR6, AbbR7, AbbR8, AbbR9. Conditions: as each part says. -/
import Derived.Test.YtpgnjcckmmkmkaaDoorAbBTextsZ06
import Derived.Test.YtpgnjcckmmkmkaaDoorAbBTextsZ00
import Derived.Test.YtpgnjcckmmkmkaaDoorAbBTextsZ05
import Derived.Test.YtpgnjcckmmkmkaaDoorAbBTextsZ04
/- term.Cmp upon terms that may be, walked. Conditions: terms that may be; so many nodes at most. -/
namespace Go.Ab
open Go.Proofs
set_option maxRecDepth 100000
set_option linter.unusedSimpArgs false

theorem good_own {k : Int} {b : Bool} {lg : Gk} {l : List Nat} {s : List UInt8} {n : Int} {kg : Gk} {ks : List T} (h : goodT (.mk k b lg l s n kg ks)) : Limbs l ∧ ownT (.mk k b lg l s n kg ks) = true ∧ goodK ks := by
  simp only [goodT] at h
  exact h
theorem good_kids {k : Int} {b : Bool} {lg : Gk} {l : List Nat} {s : List UInt8} {n : Int} {kg : Gk} {ks : List T} (h : goodT (.mk k b lg l s n kg ks)) (h4 : k ≠ 4) (h5 : k ≠ 5) : ks = [] := by
  have := (good_own h).2.1
  simp only [ownT, Bool.and_eq_true, decide_eq_true_eq, if_neg h4, if_neg h5] at this
  exact List.length_eq_zero_iff.mp this.2.1.2
theorem good_tup {b : Bool} {lg : Gk} {l : List Nat} {s : List UInt8} {n : Int} {kg : Gk} {ks : List T} (h : goodT (.mk 5 b lg l s n kg ks)) : ks.length ≤ 40 := by
  have := (good_own h).2.1
  simp only [ownT, Bool.and_eq_true, decide_eq_true_eq, Int.reduceEq, ↓reduceIte] at this
  exact this.2.1.2
theorem rank_inj {k k' : Int} (h : 1 ≤ k ∧ k ≤ 6) (h' : 1 ≤ k' ∧ k' ≤ 6) (e : three (rankI k) (rankI k') = 0) : k = k' := by
  have c : k = 1 ∨ k = 2 ∨ k = 3 ∨ k = 4 ∨ k = 5 ∨ k = 6 := by omega
  have c' : k' = 1 ∨ k' = 2 ∨ k' = 3 ∨ k' = 4 ∨ k' = 5 ∨ k' = 6 := by omega
  rcases c with rfl | rfl | rfl | rfl | rfl | rfl <;> rcases c' with rfl | rfl | rfl | rfl | rfl | rfl <;> first | rfl | (exact absurd e (by decide))
set_option maxHeartbeats 32000000 in
theorem tcmp_eq : ∀ (d D : Nat) (a0 b0 : T), htT a0 ≤ d → 3 * d + 6 ≤ D → nodT a0 < 100000 → goodT a0 → goodT b0 →
    evalFn Tryd.prog cfg0 100000 D 60 [.tree (encT a0), .tree (encT b0)] = some (.tree (.int .i64 (cmpT a0 b0)), [[], []])
  | 0, _, a0, b0, hd, _, hn, ha, hb => by obtain ⟨k, b, lg, l, s, m, kg, ks⟩ := a0; simp only [htT] at hd; omega
  | d + 1, D, a0, b0, hd, hD, hn, ha, hb => by
    obtain ⟨m, rfl⟩ : ∃ m, D = m + 9 := ⟨D - 9, by omega⟩
    have IH := fun D h a b h1 h2 h3 h4 => tcmp_eq d D a b h1 h h2 h3 h4
    rw [evalFn_go _ Tryd.func60 (by unfold Tryd.f60; rfl) (by unfold Tryd.f60; decide) (Nat.le_of_ble_eq_true (by unfold Tryd.f60; rfl)) (by kernel_rfl)]
    simp only [zaa, zab, zac, zad, zae, zaf, zag, zah, zai, zaj, zak, zal, zam, zan, zao, zap, zaq, zar, zas, zat, zau, zav, zaw, zax, zay, zaz, zba, zbb, zbc, zbd, zbe, zbf, zbg, zbh, zbi, zbj, Nat.reduceBEq, Bool.or_self, Bool.or_false, Bool.or_true, Bool.and_true, Bool.and_false, Bool.true_and, Bool.false_and, Option.isNone_none, Option.isNone_some, Option.isSome_some, Option.isSome_none, zbk, zbl, zbm, zbn, zbo, zbp, zbq, zbr, zbs, zbt, zbu, zbv, zbw, zbx, zby, zbz, zca, zcb, zcc, zcd, zce, zcf, zcg, zch, zci, zcj, zck, zcl, zcm, zcn, zco, zcp, zcq, zcr, zcs, zct, zcu, zcv, zcw, zcx, zcy, zcz, zda, zdb, zdc, zdd, zde, zdf, Option.getD_some, Option.getD_none, zet, zeu, zev, zew, zex, zey, zez, zfa, Option.map_some, Option.map_none, Option.bind_some, List.map_cons, List.map_nil, List.cons_append, List.nil_append, ↓reduceIte, Nat.reduceEqDiff, Nat.reduceAdd, decide_true, decide_false, Bool.true_eq_false, Bool.false_eq_true, env0, List.getElem?_cons_zero, List.getElem?_cons_succ, zdq, zdr, zds, zdt, zdu, zdv, zdw, zdx, zdy, zdz, zea, zeb, zec, fa_0, fa_1, zed, bd_0, bd_2, zee, fd_1, zef, Nat.zero_add, encT, den_loop]
    refine loop_ends (X := T × T) (fun x env s => env 2 = .ptr 2 1 0 ∧ env 3 = .ptr 3 1 0 ∧ s 2 = ⟨1, .buf (cellsT x.1)⟩ ∧ s 3 = ⟨1, .buf (cellsT x.2)⟩ ∧ htT x.1 ≤ d + 1 ∧ nodT x.1 < 100000 ∧ goodT x.1 ∧ goodT x.2) (fun x => nodT x.1) (fun x => (.tree (.int .i64 (cmpT x.1 x.2)), [[], []])) ?_ 100000 (a0, b0) _ _ hn ⟨(by first | (simp only [zfa, ↓reduceIte, Nat.reduceEqDiff]; done) | (simp only [zfa, ↓reduceIte, Nat.reduceEqDiff]; rfl)), (by first | (simp only [zfa, ↓reduceIte, Nat.reduceEqDiff]; done) | (simp only [zfa, ↓reduceIte, Nat.reduceEqDiff]; rfl)), (by first | (simp only [zfa, ↓reduceIte, Nat.reduceEqDiff]; done) | (simp only [zfa, ↓reduceIte, Nat.reduceEqDiff]; rfl)), (by first | (simp only [zfa, ↓reduceIte, Nat.reduceEqDiff]; done) | (simp only [zfa, ↓reduceIte, Nat.reduceEqDiff]; rfl)), hd, hn, ha, hb⟩
    rintro rd ⟨a, b⟩ hrd ih env st ⟨e2, e3, j2, j3, hht, hnod, hga, hgb⟩
    simp only at j2 j3 hht hnod hga hgb
    obtain ⟨k, n1, lg, l, s, i1, kg, ks⟩ := a
    obtain ⟨k', n2, lg', l', s', i2, kg', ks'⟩ := b
    have hk := good_kind hga
    have hk' := good_kind hgb
    have ga := good_own hga
    have gb := good_own hgb
    simp only [cellsT] at j2 j3
    by_cases h4 : k = 4 ∧ k' = 4
    · obtain ⟨rfl, rfl⟩ := h4
      obtain ⟨x, y, rfl⟩ := own_kids ga.2.1 rfl
      obtain ⟨x', y', rfl⟩ := own_kids gb.2.1 rfl
      have gx : goodT x ∧ goodT y := by have := ga.2.2; simp only [goodK, and_true] at this; exact this
      have gx' : goodT x' ∧ goodT y' := by have := gb.2.2; simp only [goodK, and_true] at this; exact this
      have hh : max (htT x) (htT y) + 1 ≤ d + 1 := by simp only [htT, htK] at hht; omega
      have hnn : nodT (.mk 4 n1 lg l s i1 kg [x, y]) = nodT x + nodT y + 1 := by simp only [nodT, nodK]; omega
      have hc : cmpT (.mk 4 n1 lg l s i1 kg [x, y]) (.mk 4 n2 lg' l' s' i2 kg' [x', y']) = or2 (cmpT x x') (cmpT y y') := by
        simp only [cmpT, kindT, kidsT, and_self, ↓reduceIte, cmpC, cmpD, List.headD_cons, List.tail_cons]
      have hq : ((4 : Int) == 4) = true := rfl
      have k1 := callQ_trees (f := 73) (vs := [encT (.mk 4 n1 lg l s i1 kg [x, y]), .int .i64 0]) rfl (kid_eq 100000 (m+7) 4 n1 lg l s i1 kg [x, y] 0 x [y] rfl)
      have k2 := callQ_trees (f := 73) (vs := [encT (.mk 4 n1 lg l s i1 kg [x, y]), .int .i64 1]) rfl (kid_eq 100000 (m+7) 4 n1 lg l s i1 kg [x, y] 1 y [] rfl)
      have k3 := callQ_trees (f := 73) (vs := [encT (.mk 4 n2 lg' l' s' i2 kg' [x', y']), .int .i64 0]) rfl (kid_eq 100000 (m+7) 4 n2 lg' l' s' i2 kg' [x', y'] 0 x' [y'] rfl)
      have k4 := callQ_trees (f := 73) (vs := [encT (.mk 4 n2 lg' l' s' i2 kg' [x', y']), .int .i64 1]) rfl (kid_eq 100000 (m+7) 4 n2 lg' l' s' i2 kg' [x', y'] 1 y' [] rfl)
      have k5 := callQ_trees (f := 60) (vs := [encT x, encT x']) rfl (IH (m+8) (by omega) x x' (by omega) (by omega) gx.1 gx'.1)
      simp only [encT, cellsT, List.length_cons, List.length_nil, Nat.zero_add, Nat.reduceAdd] at k1 k2 k3 k4 k5 j2 j3
      by_cases g : cmpT x x' = 0
      · have g' : (cmpT x x' != 0) = false := by rw [g]; rfl
        rw [or2_0 g] at hc
        simp only [zaa, zab, zac, zad, zae, zaf, zag, zah, zai, zaj, zak, zal, zam, zan, zao, zap, zaq, zar, zas, zat, zau, zav, zaw, zax, zay, zaz, zba, zbb, zbc, zbd, zbe, zbf, zbg, zbh, zbi, zbj, Nat.reduceBEq, Bool.or_self, Bool.or_false, Bool.or_true, Bool.and_true, Bool.and_false, Bool.true_and, Bool.false_and, Option.isNone_none, Option.isNone_some, Option.isSome_some, Option.isSome_none, zbk, zbl, zbm, zbn, zbo, zbp, zbq, zbr, zbs, zbt, zbu, zbv, zbw, zbx, zby, zbz, zca, zcb, zcc, zcd, zce, zcf, zcg, zch, zci, zcj, zck, zcl, zcm, zcn, zco, zcp, zcq, zcr, zcs, zct, zcu, zcv, zcw, zcx, zcy, zcz, zda, zdb, zdc, zdd, zde, zdf, Option.getD_some, Option.getD_none, zet, zeu, zev, zew, zex, zey, zez, zfa, Option.map_some, Option.map_none, Option.bind_some, List.map_cons, List.map_nil, List.cons_append, List.nil_append, ↓reduceIte, Nat.reduceEqDiff, Nat.reduceAdd, decide_true, decide_false, Bool.true_eq_false, Bool.false_eq_true, zdg, zdh, zdi, zdj, zdk, zdl, zdm, zdn, ia22, ld31, zdo, zdp, zdq, zdr, zds, zdt, zdu, zdv, zdw, zdx, zdy, zdz, zea, zeb, zec, fa_0, fa_1, zed, bd_0, bd_2, zee, fd_1, zef, Nat.zero_add, e2, e3, j2, j3, faT_0, ldT_0, ldT_a, i_eqlV, hq, k1, k2, k3, k4, k5, g', st_Tt, stT_6, stT_u]
        exact ih (y, y') _ _ (by simp only; omega) (by simp only [hc]) ⟨(by first | (simp only [zfa, ↓reduceIte, Nat.reduceEqDiff, e2]; done) | (simp only [zfa, ↓reduceIte, Nat.reduceEqDiff, e2]; rfl)), (by first | (simp only [zfa, ↓reduceIte, Nat.reduceEqDiff, e3]; done) | (simp only [zfa, ↓reduceIte, Nat.reduceEqDiff, e3]; rfl)), (by first | (simp only [zfa, ↓reduceIte, Nat.reduceEqDiff]; done) | (simp only [zfa, ↓reduceIte, Nat.reduceEqDiff]; rfl)), (by first | (simp only [zfa, ↓reduceIte, Nat.reduceEqDiff]; done) | (simp only [zfa, ↓reduceIte, Nat.reduceEqDiff]; rfl)), by simp only; omega, by simp only; omega, gx.2, gx'.2⟩
      · have g' : (cmpT x x' != 0) = true := by rw [bne_iff_ne]; exact g
        rw [or2_n g] at hc
        simp only [hc]
        simp only [zaa, zab, zac, zad, zae, zaf, zag, zah, zai, zaj, zak, zal, zam, zan, zao, zap, zaq, zar, zas, zat, zau, zav, zaw, zax, zay, zaz, zba, zbb, zbc, zbd, zbe, zbf, zbg, zbh, zbi, zbj, Nat.reduceBEq, Bool.or_self, Bool.or_false, Bool.or_true, Bool.and_true, Bool.and_false, Bool.true_and, Bool.false_and, Option.isNone_none, Option.isNone_some, Option.isSome_some, Option.isSome_none, zbk, zbl, zbm, zbn, zbo, zbp, zbq, zbr, zbs, zbt, zbu, zbv, zbw, zbx, zby, zbz, zca, zcb, zcc, zcd, zce, zcf, zcg, zch, zci, zcj, zck, zcl, zcm, zcn, zco, zcp, zcq, zcr, zcs, zct, zcu, zcv, zcw, zcx, zcy, zcz, zda, zdb, zdc, zdd, zde, zdf, Option.getD_some, Option.getD_none, zet, zeu, zev, zew, zex, zey, zez, zfa, Option.map_some, Option.map_none, Option.bind_some, List.map_cons, List.map_nil, List.cons_append, List.nil_append, ↓reduceIte, Nat.reduceEqDiff, Nat.reduceAdd, decide_true, decide_false, Bool.true_eq_false, Bool.false_eq_true, zdg, zdh, zdi, zdj, zdk, zdl, zdm, zdn, ia22, ld31, zdo, zdp, zdq, zdr, zds, zdt, zdu, zdv, zdw, zdx, zdy, zdz, zea, zeb, zec, fa_0, fa_1, zed, bd_0, bd_2, zee, fd_1, zef, Nat.zero_add, e2, e3, j2, j3, faT_0, ldT_0, ldT_a, i_eqlV, hq, k1, k2, k3, k4, k5, g', st_Tt, stT_6, stT_u]
        exact finish_i _ _ _ _ _ _ _ (by first | (simp only [zfa, ↓reduceIte, Nat.reduceEqDiff]; done) | (simp only [zfa, ↓reduceIte, Nat.reduceEqDiff]; rfl)) rfl
    · have hc : cmpT (.mk k n1 lg l s i1 kg ks) (.mk k' n2 lg' l' s' i2 kg' ks') = or2 (three (rankI k) (rankI k')) (if k = 1 then cmpI (numZ n1 l) (numZ n2 l') else if k = 2 ∨ k = 6 then strC s s' else if k = 5 then or2 (three ks.length ks'.length) (cmpL ks ks') else 0) := by
        simp only [cmpT, kindT, kidsT, strT, numT, h4, ↓reduceIte]
      have r1 := callQ_trees (f := 75) (vs := [.int .i64 k]) rfl (rank_eq (m+6) k hk)
      have r2 := callQ_trees (f := 75) (vs := [.int .i64 k']) rfl (rank_eq (m+6) k' hk')
      have r3 := callQ_trees (f := 74) (vs := [.int .i64 (rankI k), .int .i64 (rankI k')]) rfl (cmpCI_eq 100000 (m+6) (rankI k) (rankI k'))
      by_cases g : three (rankI k) (rankI k') = 0
      · have hkk := rank_inj hk hk' g
        subst hkk
        have k4 : k ≠ 4 := fun e => h4 ⟨e, e⟩
        have g' : (three (rankI k) (rankI k) != 0) = false := by rw [g]; rfl
        rw [or2_0 g] at hc
        simp only [hc]
        have b4 : (k == 4) = false := beq_eq_false_iff_ne.mpr k4
        have cc : k = 1 ∨ k = 2 ∨ k = 3 ∨ k = 5 ∨ k = 6 := by omega
        have c1 := fun D st => callA_trees (cfg := cfg0) (d := D) (s := st) (f := 76) (vs := [encA n1 lg l, encA n2 lg' l']) rfl (ncmp_eq 100000 (m+4) (by decide) (isN_A n1 lg l ga.1) (isN_A n2 lg' l' gb.1))
        have c2 := fun D st => callA_trees (cfg := cfg0) (d := D) (s := st) (f := 77) (vs := [.str s, .str s']) rfl (cmpCS_eq 100000 (m+6) s s')
        simp only [encA] at c1
        rcases cc with rfl | rfl | rfl | rfl | rfl
        · simp only [zaa, zab, zac, zad, zae, zaf, zag, zah, zai, zaj, zak, zal, zam, zan, zao, zap, zaq, zar, zas, zat, zau, zav, zaw, zax, zay, zaz, zba, zbb, zbc, zbd, zbe, zbf, zbg, zbh, zbi, zbj, Nat.reduceBEq, Bool.or_self, Bool.or_false, Bool.or_true, Bool.and_true, Bool.and_false, Bool.true_and, Bool.false_and, Option.isNone_none, Option.isNone_some, Option.isSome_some, Option.isSome_none, zbk, zbl, zbm, zbn, zbo, zbp, zbq, zbr, zbs, zbt, zbu, zbv, zbw, zbx, zby, zbz, zca, zcb, zcc, zcd, zce, zcf, zcg, zch, zci, zcj, zck, zcl, zcm, zcn, zco, zcp, zcq, zcr, zcs, zct, zcu, zcv, zcw, zcx, zcy, zcz, zda, zdb, zdc, zdd, zde, zdf, Option.getD_some, Option.getD_none, zet, zeu, zev, zew, zex, zey, zez, zfa, Option.map_some, Option.map_none, Option.bind_some, List.map_cons, List.map_nil, List.cons_append, List.nil_append, ↓reduceIte, Nat.reduceEqDiff, Nat.reduceAdd, decide_true, decide_false, Bool.true_eq_false, Bool.false_eq_true, zdg, zdh, zdi, zdj, zdk, zdl, zdm, zdn, ia22, ld31, zdo, zdp, zdq, zdr, zds, zdt, zdu, zdv, zdw, zdx, zdy, zdz, zea, zeb, zec, fa_0, fa_1, zed, bd_0, bd_2, zee, fd_1, zef, Nat.zero_add, e2, e3, j2, j3, faT_0, faT_1, faT_2, faT_4, ldT_0, ldT_1, ldT_2, ldT_4, i_eqlV, b4, Int.reduceBEq, Int.reduceEq, r1, r2, r3, g', c1]
          exact finish_i _ _ _ _ _ _ _ (by first | (simp only [zfa, ↓reduceIte, Nat.reduceEqDiff]; done) | (simp only [zfa, ↓reduceIte, Nat.reduceEqDiff]; rfl)) rfl
        · simp only [zaa, zab, zac, zad, zae, zaf, zag, zah, zai, zaj, zak, zal, zam, zan, zao, zap, zaq, zar, zas, zat, zau, zav, zaw, zax, zay, zaz, zba, zbb, zbc, zbd, zbe, zbf, zbg, zbh, zbi, zbj, Nat.reduceBEq, Bool.or_self, Bool.or_false, Bool.or_true, Bool.and_true, Bool.and_false, Bool.true_and, Bool.false_and, Option.isNone_none, Option.isNone_some, Option.isSome_some, Option.isSome_none, zbk, zbl, zbm, zbn, zbo, zbp, zbq, zbr, zbs, zbt, zbu, zbv, zbw, zbx, zby, zbz, zca, zcb, zcc, zcd, zce, zcf, zcg, zch, zci, zcj, zck, zcl, zcm, zcn, zco, zcp, zcq, zcr, zcs, zct, zcu, zcv, zcw, zcx, zcy, zcz, zda, zdb, zdc, zdd, zde, zdf, Option.getD_some, Option.getD_none, zet, zeu, zev, zew, zex, zey, zez, zfa, Option.map_some, Option.map_none, Option.bind_some, List.map_cons, List.map_nil, List.cons_append, List.nil_append, ↓reduceIte, Nat.reduceEqDiff, Nat.reduceAdd, decide_true, decide_false, Bool.true_eq_false, Bool.false_eq_true, zdg, zdh, zdi, zdj, zdk, zdl, zdm, zdn, ia22, ld31, zdo, zdp, zdq, zdr, zds, zdt, zdu, zdv, zdw, zdx, zdy, zdz, zea, zeb, zec, fa_0, fa_1, zed, bd_0, bd_2, zee, fd_1, zef, Nat.zero_add, e2, e3, j2, j3, faT_0, faT_1, faT_2, faT_4, ldT_0, ldT_1, ldT_2, ldT_4, i_eqlV, b4, Int.reduceBEq, Int.reduceEq, true_or, r1, r2, r3, g', c2]
          exact finish_i _ _ _ _ _ _ _ (by first | (simp only [zfa, ↓reduceIte, Nat.reduceEqDiff]; done) | (simp only [zfa, ↓reduceIte, Nat.reduceEqDiff]; rfl)) rfl
        · simp only [zaa, zab, zac, zad, zae, zaf, zag, zah, zai, zaj, zak, zal, zam, zan, zao, zap, zaq, zar, zas, zat, zau, zav, zaw, zax, zay, zaz, zba, zbb, zbc, zbd, zbe, zbf, zbg, zbh, zbi, zbj, Nat.reduceBEq, Bool.or_self, Bool.or_false, Bool.or_true, Bool.and_true, Bool.and_false, Bool.true_and, Bool.false_and, Option.isNone_none, Option.isNone_some, Option.isSome_some, Option.isSome_none, zbk, zbl, zbm, zbn, zbo, zbp, zbq, zbr, zbs, zbt, zbu, zbv, zbw, zbx, zby, zbz, zca, zcb, zcc, zcd, zce, zcf, zcg, zch, zci, zcj, zck, zcl, zcm, zcn, zco, zcp, zcq, zcr, zcs, zct, zcu, zcv, zcw, zcx, zcy, zcz, zda, zdb, zdc, zdd, zde, zdf, Option.getD_some, Option.getD_none, zet, zeu, zev, zew, zex, zey, zez, zfa, Option.map_some, Option.map_none, Option.bind_some, List.map_cons, List.map_nil, List.cons_append, List.nil_append, ↓reduceIte, Nat.reduceEqDiff, Nat.reduceAdd, decide_true, decide_false, Bool.true_eq_false, Bool.false_eq_true, zdg, zdh, zdi, zdj, zdk, zdl, zdm, zdn, ia22, ld31, zdo, zdp, zdq, zdr, zds, zdt, zdu, zdv, zdw, zdx, zdy, zdz, zea, zeb, zec, fa_0, fa_1, zed, bd_0, bd_2, zee, fd_1, zef, Nat.zero_add, e2, e3, j2, j3, faT_0, faT_1, faT_2, faT_4, ldT_0, ldT_1, ldT_2, ldT_4, i_eqlV, b4, Int.reduceBEq, Int.reduceEq, false_or, r1, r2, r3, g', c2]
          exact finish_i _ _ _ _ _ _ _ (by first | (simp only [zfa, ↓reduceIte, Nat.reduceEqDiff]; done) | (simp only [zfa, ↓reduceIte, Nat.reduceEqDiff]; rfl)) rfl
        · have hl1 := good_tup hga
          have hl2 := good_tup hgb
          have hhk : htK ks ≤ d := by simp only [htT] at hht; omega
          have hnk : nodK ks < 100000 := by simp only [nodT] at hnod; omega
          have ht := tuples_eq (m+5) ks ks' kg kg' (by omega) (fun i j x y q r h1 h2 => IH (m+6) (by omega) x y (by have := kids_ht ks i x q h1; omega) (by have := kids_nod ks i x q h1; omega) (goodK_at ks i x q h1 ga.2.2) (goodK_at ks' j y r h2 gb.2.2))
          have isk : ∀ g : Gk, ∀ ks : List T, isTree (.sl (cellsK ks) ks.length (gr g)) = true := by intro g ks; cases g <;> rfl
          have c3 := fun D st => callA_trees (cfg := cfg0) (d := D) (s := st) (f := 79) (vs := [.sl (cellsK ks) ks.length (gr kg), .sl (cellsK ks') ks'.length (gr kg')]) (by simp only [List.all_cons, isk, Bool.true_and]; rfl) ht
          simp only [zaa, zab, zac, zad, zae, zaf, zag, zah, zai, zaj, zak, zal, zam, zan, zao, zap, zaq, zar, zas, zat, zau, zav, zaw, zax, zay, zaz, zba, zbb, zbc, zbd, zbe, zbf, zbg, zbh, zbi, zbj, Nat.reduceBEq, Bool.or_self, Bool.or_false, Bool.or_true, Bool.and_true, Bool.and_false, Bool.true_and, Bool.false_and, Option.isNone_none, Option.isNone_some, Option.isSome_some, Option.isSome_none, zbk, zbl, zbm, zbn, zbo, zbp, zbq, zbr, zbs, zbt, zbu, zbv, zbw, zbx, zby, zbz, zca, zcb, zcc, zcd, zce, zcf, zcg, zch, zci, zcj, zck, zcl, zcm, zcn, zco, zcp, zcq, zcr, zcs, zct, zcu, zcv, zcw, zcx, zcy, zcz, zda, zdb, zdc, zdd, zde, zdf, Option.getD_some, Option.getD_none, zet, zeu, zev, zew, zex, zey, zez, zfa, Option.map_some, Option.map_none, Option.bind_some, List.map_cons, List.map_nil, List.cons_append, List.nil_append, ↓reduceIte, Nat.reduceEqDiff, Nat.reduceAdd, decide_true, decide_false, Bool.true_eq_false, Bool.false_eq_true, zdg, zdh, zdi, zdj, zdk, zdl, zdm, zdn, ia22, ld31, zdo, zdp, zdq, zdr, zds, zdt, zdu, zdv, zdw, zdx, zdy, zdz, zea, zeb, zec, fa_0, fa_1, zed, bd_0, bd_2, zee, fd_1, zef, Nat.zero_add, e2, e3, j2, j3, faT_0, faT_1, faT_2, faT_4, ldT_0, ldT_1, ldT_2, ldT_4, i_eqlV, b4, Int.reduceBEq, Int.reduceEq, false_or, r1, r2, r3, g', c3]
          exact finish_i _ _ _ _ _ _ _ (by first | (simp only [zfa, ↓reduceIte, Nat.reduceEqDiff]; done) | (simp only [zfa, ↓reduceIte, Nat.reduceEqDiff]; rfl)) rfl
        · simp only [zaa, zab, zac, zad, zae, zaf, zag, zah, zai, zaj, zak, zal, zam, zan, zao, zap, zaq, zar, zas, zat, zau, zav, zaw, zax, zay, zaz, zba, zbb, zbc, zbd, zbe, zbf, zbg, zbh, zbi, zbj, Nat.reduceBEq, Bool.or_self, Bool.or_false, Bool.or_true, Bool.and_true, Bool.and_false, Bool.true_and, Bool.false_and, Option.isNone_none, Option.isNone_some, Option.isSome_some, Option.isSome_none, zbk, zbl, zbm, zbn, zbo, zbp, zbq, zbr, zbs, zbt, zbu, zbv, zbw, zbx, zby, zbz, zca, zcb, zcc, zcd, zce, zcf, zcg, zch, zci, zcj, zck, zcl, zcm, zcn, zco, zcp, zcq, zcr, zcs, zct, zcu, zcv, zcw, zcx, zcy, zcz, zda, zdb, zdc, zdd, zde, zdf, Option.getD_some, Option.getD_none, zet, zeu, zev, zew, zex, zey, zez, zfa, Option.map_some, Option.map_none, Option.bind_some, List.map_cons, List.map_nil, List.cons_append, List.nil_append, ↓reduceIte, Nat.reduceEqDiff, Nat.reduceAdd, decide_true, decide_false, Bool.true_eq_false, Bool.false_eq_true, zdg, zdh, zdi, zdj, zdk, zdl, zdm, zdn, ia22, ld31, zdo, zdp, zdq, zdr, zds, zdt, zdu, zdv, zdw, zdx, zdy, zdz, zea, zeb, zec, fa_0, fa_1, zed, bd_0, bd_2, zee, fd_1, zef, Nat.zero_add, e2, e3, j2, j3, faT_0, faT_1, faT_2, faT_4, ldT_0, ldT_1, ldT_2, ldT_4, i_eqlV, b4, Int.reduceBEq, Int.reduceEq, or_true, r1, r2, r3, g', c2]
          exact finish_i _ _ _ _ _ _ _ (by first | (simp only [zfa, ↓reduceIte, Nat.reduceEqDiff]; done) | (simp only [zfa, ↓reduceIte, Nat.reduceEqDiff]; rfl)) rfl
      · have g' : (three (rankI k) (rankI k') != 0) = true := by rw [bne_iff_ne]; exact g
        rw [or2_n g] at hc
        simp only [hc]
        by_cases k4 : k = 4
        · have b4 : (k == 4) = true := by rw [k4]; rfl
          have b5 : (k' == 4) = false := beq_eq_false_iff_ne.mpr fun e => h4 ⟨k4, e⟩
          simp only [zaa, zab, zac, zad, zae, zaf, zag, zah, zai, zaj, zak, zal, zam, zan, zao, zap, zaq, zar, zas, zat, zau, zav, zaw, zax, zay, zaz, zba, zbb, zbc, zbd, zbe, zbf, zbg, zbh, zbi, zbj, Nat.reduceBEq, Bool.or_self, Bool.or_false, Bool.or_true, Bool.and_true, Bool.and_false, Bool.true_and, Bool.false_and, Option.isNone_none, Option.isNone_some, Option.isSome_some, Option.isSome_none, zbk, zbl, zbm, zbn, zbo, zbp, zbq, zbr, zbs, zbt, zbu, zbv, zbw, zbx, zby, zbz, zca, zcb, zcc, zcd, zce, zcf, zcg, zch, zci, zcj, zck, zcl, zcm, zcn, zco, zcp, zcq, zcr, zcs, zct, zcu, zcv, zcw, zcx, zcy, zcz, zda, zdb, zdc, zdd, zde, zdf, Option.getD_some, Option.getD_none, zet, zeu, zev, zew, zex, zey, zez, zfa, Option.map_some, Option.map_none, Option.bind_some, List.map_cons, List.map_nil, List.cons_append, List.nil_append, ↓reduceIte, Nat.reduceEqDiff, Nat.reduceAdd, decide_true, decide_false, Bool.true_eq_false, Bool.false_eq_true, zdg, zdh, zdi, zdj, zdk, zdl, zdm, zdn, ia22, ld31, zdo, zdp, zdq, zdr, zds, zdt, zdu, zdv, zdw, zdx, zdy, zdz, zea, zeb, zec, fa_0, fa_1, zed, bd_0, bd_2, zee, fd_1, zef, Nat.zero_add, e2, e3, j2, j3, faT_0, ldT_0, i_eqlV, b4, b5, r1, r2, r3, g']
          exact finish_i _ _ _ _ _ _ _ (by first | (simp only [zfa, ↓reduceIte, Nat.reduceEqDiff]; done) | (simp only [zfa, ↓reduceIte, Nat.reduceEqDiff]; rfl)) rfl
        · have b4 : (k == 4) = false := beq_eq_false_iff_ne.mpr k4
          simp only [zaa, zab, zac, zad, zae, zaf, zag, zah, zai, zaj, zak, zal, zam, zan, zao, zap, zaq, zar, zas, zat, zau, zav, zaw, zax, zay, zaz, zba, zbb, zbc, zbd, zbe, zbf, zbg, zbh, zbi, zbj, Nat.reduceBEq, Bool.or_self, Bool.or_false, Bool.or_true, Bool.and_true, Bool.and_false, Bool.true_and, Bool.false_and, Option.isNone_none, Option.isNone_some, Option.isSome_some, Option.isSome_none, zbk, zbl, zbm, zbn, zbo, zbp, zbq, zbr, zbs, zbt, zbu, zbv, zbw, zbx, zby, zbz, zca, zcb, zcc, zcd, zce, zcf, zcg, zch, zci, zcj, zck, zcl, zcm, zcn, zco, zcp, zcq, zcr, zcs, zct, zcu, zcv, zcw, zcx, zcy, zcz, zda, zdb, zdc, zdd, zde, zdf, Option.getD_some, Option.getD_none, zet, zeu, zev, zew, zex, zey, zez, zfa, Option.map_some, Option.map_none, Option.bind_some, List.map_cons, List.map_nil, List.cons_append, List.nil_append, ↓reduceIte, Nat.reduceEqDiff, Nat.reduceAdd, decide_true, decide_false, Bool.true_eq_false, Bool.false_eq_true, zdg, zdh, zdi, zdj, zdk, zdl, zdm, zdn, ia22, ld31, zdo, zdp, zdq, zdr, zds, zdt, zdu, zdv, zdw, zdx, zdy, zdz, zea, zeb, zec, fa_0, fa_1, zed, bd_0, bd_2, zee, fd_1, zef, Nat.zero_add, e2, e3, j2, j3, faT_0, ldT_0, i_eqlV, b4, r1, r2, r3, g']
          exact finish_i _ _ _ _ _ _ _ (by first | (simp only [zfa, ↓reduceIte, Nat.reduceEqDiff]; done) | (simp only [zfa, ↓reduceIte, Nat.reduceEqDiff]; rfl)) rfl
end Go.Ab

/- term.Same, walked. Conditions: so many limbs, nodes at most. -/
namespace Go.Ab
open Go.Proofs
set_option maxRecDepth 100000
set_option linter.unusedSimpArgs false

theorem eqLG_eq (n d : Nat) (b b' : Gk) (l m : List Nat) (hn : l.length < n) (hk : l.length ≤ 1000000) : evalFn Tryd.prog cfg0 n (d+1) 88 [.tree (encL b l), .tree (encL b' m)] = some (.tree (.bool (decide (l = m))), [[], []]) := by
  rw [evalFn_go _ Tryd.func88 (by unfold Tryd.f88; rfl) (by unfold Tryd.f88; decide) (Nat.le_of_ble_eq_true (by unfold Tryd.f88; rfl)) (by kernel_rfl)]
  by_cases hlm : l.length = m.length
  · have p1 : ((l.length : Int) != (m.length : Int)) = false := by rw [hlm]; exact bne_self_eq_false _
    simp only [zaa, zab, zac, zad, zae, zaf, zag, zah, zai, zaj, zak, zal, zam, zan, zao, zap, zaq, zar, zas, zat, zau, zav, zaw, zax, zay, zaz, zba, zbb, zbc, zbd, zbe, zbf, zbg, zbh, zbi, zbj, Nat.reduceBEq, Bool.or_self, Bool.or_false, Bool.or_true, Bool.and_true, Bool.and_false, Bool.true_and, Bool.false_and, Option.isNone_none, Option.isNone_some, Option.isSome_some, Option.isSome_none, zbk, zbl, zbm, zbn, zbo, zbp, zbq, zbr, zbs, zbt, zbu, zbv, zbw, zbx, zby, zbz, zca, zcb, zcc, zcd, zce, zcf, zcg, zch, zci, zcj, zck, zcl, zcm, zcn, zco, zcp, zcq, zcr, zcs, zct, zcu, zcv, zcw, zcx, zcy, zcz, zda, zdb, zdc, zdd, zde, zdf, Option.getD_some, Option.getD_none, zet, zeu, zev, zew, zex, zey, zez, zfa, Option.map_some, Option.map_none, Option.bind_some, List.map_cons, List.map_nil, List.cons_append, List.nil_append, ↓reduceIte, Nat.reduceEqDiff, Nat.reduceAdd, decide_true, decide_false, Bool.true_eq_false, Bool.false_eq_true, env0, List.getElem?_cons_zero, List.getElem?_cons_succ, zdg, zdh, zdi, zdj, zdk, zdl, zdm, zdn, ia22, ld31, zdo, zdp, p1, den_loop]
    refine loop_ends (X := Nat) (fun i env _ => env 0 = encL b l ∧ env 1 = encL b' m ∧ env 12 = .int .i64 (l.length : Int) ∧ env 13 = .int .i64 (i : Int) ∧ i ≤ l.length ∧ (l.drop i = m.drop i ↔ l = m)) (fun i => l.length - i) (fun _ => (.tree (.bool (decide (l = m))), [[], []])) ?_ n 0 _ _ (by omega) ⟨(by first | (simp only [zfa, ↓reduceIte, Nat.reduceEqDiff, env0, List.getElem?_cons_zero, List.getElem?_cons_succ]; done) | (simp only [zfa, ↓reduceIte, Nat.reduceEqDiff, env0, List.getElem?_cons_zero, List.getElem?_cons_succ]; rfl)), (by first | (simp only [zfa, ↓reduceIte, Nat.reduceEqDiff, env0, List.getElem?_cons_zero, List.getElem?_cons_succ]; done) | (simp only [zfa, ↓reduceIte, Nat.reduceEqDiff, env0, List.getElem?_cons_zero, List.getElem?_cons_succ]; rfl)), (by first | (simp only [zfa, ↓reduceIte, Nat.reduceEqDiff]; done) | (simp only [zfa, ↓reduceIte, Nat.reduceEqDiff]; rfl)), (by first | (simp only [zfa, ↓reduceIte, Nat.reduceEqDiff]; done) | (simp only [zfa, ↓reduceIte, Nat.reduceEqDiff]; rfl)), Nat.zero_le _, Iff.rfl⟩
    intro k i hx ih env s ⟨h0, h1, h2, h5, hi, hd⟩
    by_cases hp : i = l.length
    · have e : l = m := by
        rw [← hd, hp, List.drop_length, hlm, List.drop_length]
      rw [decide_eq_true e]
      have q1 : ¬ ((i : Int) < (l.length : Int)) := by omega
      simp only [zaa, zab, zac, zad, zae, zaf, zag, zah, zai, zaj, zak, zal, zam, zan, zao, zap, zaq, zar, zas, zat, zau, zav, zaw, zax, zay, zaz, zba, zbb, zbc, zbd, zbe, zbf, zbg, zbh, zbi, zbj, Nat.reduceBEq, Bool.or_self, Bool.or_false, Bool.or_true, Bool.and_true, Bool.and_false, Bool.true_and, Bool.false_and, Option.isNone_none, Option.isNone_some, Option.isSome_some, Option.isSome_none, zbk, zbl, zbm, zbn, zbo, zbp, zbq, zbr, zbs, zbt, zbu, zbv, zbw, zbx, zby, zbz, zca, zcb, zcc, zcd, zce, zcf, zcg, zch, zci, zcj, zck, zcl, zcm, zcn, zco, zcp, zcq, zcr, zcs, zct, zcu, zcv, zcw, zcx, zcy, zcz, zda, zdb, zdc, zdd, zde, zdf, Option.getD_some, Option.getD_none, zet, zeu, zev, zew, zex, zey, zez, zfa, Option.map_some, Option.map_none, Option.bind_some, List.map_cons, List.map_nil, List.cons_append, List.nil_append, ↓reduceIte, Nat.reduceEqDiff, Nat.reduceAdd, decide_true, decide_false, Bool.true_eq_false, Bool.false_eq_true, zdg, zdh, zdi, zdj, zdk, zdl, zdm, zdn, ia22, ld31, zdo, zdp, h0, h1, h2, h5, q1]
      exact finish_b _ _ _ _ _ _ _ (by first | (simp only [zfa, ↓reduceIte, Nat.reduceEqDiff]; done) | (simp only [zfa, ↓reduceIte, Nat.reduceEqDiff]; rfl)) rfl
    · have q1 : (i : Int) < (l.length : Int) := by omega
      have q2 : (0 : Int) ≤ (i : Int) := by omega
      have q3 : i < l.length := by omega
      have q4 : i < m.length := by omega
      have q5 : (i : Int) < (m.length : Int) := by omega
      have f4 := i_add Tryd.prog 3 (i : Int) 1 (by omega) (by omega)
      have dl : l.drop i = l.getD i 0 :: l.drop (i + 1) := by rw [List.getD_eq_getElem?_getD, List.getElem?_eq_getElem q3]; exact List.drop_eq_getElem_cons q3
      have dm : m.drop i = m.getD i 0 :: m.drop (i + 1) := by rw [List.getD_eq_getElem?_getD, List.getElem?_eq_getElem q4]; exact List.drop_eq_getElem_cons q4
      rw [dl, dm, List.cons.injEq] at hd
      by_cases g : l.getD i 0 = m.getD i 0
      · have p2 : ((l.getD i 0 : Int) != (m.getD i 0 : Int)) = false := by rw [g]; exact bne_self_eq_false _
        simp only [zaa, zab, zac, zad, zae, zaf, zag, zah, zai, zaj, zak, zal, zam, zan, zao, zap, zaq, zar, zas, zat, zau, zav, zaw, zax, zay, zaz, zba, zbb, zbc, zbd, zbe, zbf, zbg, zbh, zbi, zbj, Nat.reduceBEq, Bool.or_self, Bool.or_false, Bool.or_true, Bool.and_true, Bool.and_false, Bool.true_and, Bool.false_and, Option.isNone_none, Option.isNone_some, Option.isSome_some, Option.isSome_none, zbk, zbl, zbm, zbn, zbo, zbp, zbq, zbr, zbs, zbt, zbu, zbv, zbw, zbx, zby, zbz, zca, zcb, zcc, zcd, zce, zcf, zcg, zch, zci, zcj, zck, zcl, zcm, zcn, zco, zcp, zcq, zcr, zcs, zct, zcu, zcv, zcw, zcx, zcy, zcz, zda, zdb, zdc, zdd, zde, zdf, Option.getD_some, Option.getD_none, zet, zeu, zev, zew, zex, zey, zez, zfa, Option.map_some, Option.map_none, Option.bind_some, List.map_cons, List.map_nil, List.cons_append, List.nil_append, ↓reduceIte, Nat.reduceEqDiff, Nat.reduceAdd, decide_true, decide_false, Bool.true_eq_false, Bool.false_eq_true, zdg, zdh, zdi, zdj, zdk, zdl, zdm, zdn, ia22, ld31, zdo, zdp, h0, h1, h2, h5, q1, q2, q3, q4, q5, Int.toNat_natCast, p2, f4]
        exact ih (i + 1) _ _ (by omega) rfl ⟨(by first | (simp only [zfa, ↓reduceIte, Nat.reduceEqDiff, h0]; done) | (simp only [zfa, ↓reduceIte, Nat.reduceEqDiff, h0]; rfl)), (by first | (simp only [zfa, ↓reduceIte, Nat.reduceEqDiff, h1]; done) | (simp only [zfa, ↓reduceIte, Nat.reduceEqDiff, h1]; rfl)), (by first | (simp only [zfa, ↓reduceIte, Nat.reduceEqDiff, h2]; done) | (simp only [zfa, ↓reduceIte, Nat.reduceEqDiff, h2]; rfl)), (by first | (simp only [zfa, ↓reduceIte, Nat.reduceEqDiff]; done) | (simp only [zfa, ↓reduceIte, Nat.reduceEqDiff]; rfl)), by omega, by rw [← hd]; simp only [g, true_and]⟩
      · have p2 : ((l.getD i 0 : Int) != (m.getD i 0 : Int)) = true := by rw [bne_iff_ne]; omega
        have hne : ¬ l = m := fun e => g (hd.mpr e).1
        rw [decide_eq_false hne]
        simp only [zaa, zab, zac, zad, zae, zaf, zag, zah, zai, zaj, zak, zal, zam, zan, zao, zap, zaq, zar, zas, zat, zau, zav, zaw, zax, zay, zaz, zba, zbb, zbc, zbd, zbe, zbf, zbg, zbh, zbi, zbj, Nat.reduceBEq, Bool.or_self, Bool.or_false, Bool.or_true, Bool.and_true, Bool.and_false, Bool.true_and, Bool.false_and, Option.isNone_none, Option.isNone_some, Option.isSome_some, Option.isSome_none, zbk, zbl, zbm, zbn, zbo, zbp, zbq, zbr, zbs, zbt, zbu, zbv, zbw, zbx, zby, zbz, zca, zcb, zcc, zcd, zce, zcf, zcg, zch, zci, zcj, zck, zcl, zcm, zcn, zco, zcp, zcq, zcr, zcs, zct, zcu, zcv, zcw, zcx, zcy, zcz, zda, zdb, zdc, zdd, zde, zdf, Option.getD_some, Option.getD_none, zet, zeu, zev, zew, zex, zey, zez, zfa, Option.map_some, Option.map_none, Option.bind_some, List.map_cons, List.map_nil, List.cons_append, List.nil_append, ↓reduceIte, Nat.reduceEqDiff, Nat.reduceAdd, decide_true, decide_false, Bool.true_eq_false, Bool.false_eq_true, zdg, zdh, zdi, zdj, zdk, zdl, zdm, zdn, ia22, ld31, zdo, zdp, h0, h1, h2, h5, q1, q2, q3, q4, q5, Int.toNat_natCast, p2, f4]
        exact finish_b _ _ _ _ _ _ _ (by first | (simp only [zfa, ↓reduceIte, Nat.reduceEqDiff]; done) | (simp only [zfa, ↓reduceIte, Nat.reduceEqDiff]; rfl)) rfl
  · have p1 : ((l.length : Int) != (m.length : Int)) = true := by rw [bne_iff_ne]; omega
    rw [decide_eq_false (fun e => hlm (by rw [e]))]
    simp only [zaa, zab, zac, zad, zae, zaf, zag, zah, zai, zaj, zak, zal, zam, zan, zao, zap, zaq, zar, zas, zat, zau, zav, zaw, zax, zay, zaz, zba, zbb, zbc, zbd, zbe, zbf, zbg, zbh, zbi, zbj, Nat.reduceBEq, Bool.or_self, Bool.or_false, Bool.or_true, Bool.and_true, Bool.and_false, Bool.true_and, Bool.false_and, Option.isNone_none, Option.isNone_some, Option.isSome_some, Option.isSome_none, zbk, zbl, zbm, zbn, zbo, zbp, zbq, zbr, zbs, zbt, zbu, zbv, zbw, zbx, zby, zbz, zca, zcb, zcc, zcd, zce, zcf, zcg, zch, zci, zcj, zck, zcl, zcm, zcn, zco, zcp, zcq, zcr, zcs, zct, zcu, zcv, zcw, zcx, zcy, zcz, zda, zdb, zdc, zdd, zde, zdf, Option.getD_some, Option.getD_none, zet, zeu, zev, zew, zex, zey, zez, zfa, Option.map_some, Option.map_none, Option.bind_some, List.map_cons, List.map_nil, List.cons_append, List.nil_append, ↓reduceIte, Nat.reduceEqDiff, Nat.reduceAdd, decide_true, decide_false, Bool.true_eq_false, Bool.false_eq_true, env0, List.getElem?_cons_zero, List.getElem?_cons_succ, zdg, zdh, zdi, zdj, zdk, zdl, zdm, zdn, ia22, ld31, zdo, zdp, p1]
    exact finish_b _ _ _ _ _ _ _ (by first | (simp only [zfa, ↓reduceIte, Nat.reduceEqDiff]; done) | (simp only [zfa, ↓reduceIte, Nat.reduceEqDiff]; rfl)) rfl
def sgnT : T → Bool
  | .mk _ b _ _ _ _ _ _ => b
def nT : T → Int
  | .mk _ _ _ _ _ n _ _ => n
mutual
def sameT : T → T → Bool
  | .mk k b _ l s n _ ks, u => if k = kindT u then
      (if k = 1 then decide (b = sgnT u) && decide (l = limT u) else if k = 2 ∨ k = 6 then decide (s = strT u) else if k = 8 then decide (s = strT u) && decide (n = nT u) else if k = 9 then decide (n = nT u)
       else if k = 7 then decide (n = nT u) && sameK ks (kidsT u) else if k = 4 ∨ k = 5 then sameK ks (kidsT u) else true) else false
def sameK : List T → List T → Bool
  | [], [] => true
  | x :: r, y :: q => sameT x y && sameK r q
  | [], _ :: _ => false
  | _ :: _, [] => false
end
theorem sameK_len : ∀ (a b : List T), a.length ≠ b.length → sameK a b = false
  | [], [], h => absurd rfl h
  | [], _ :: _, _ => by simp only [sameK]
  | _ :: _, [], _ => by simp only [sameK]
  | x :: r, y :: q, h => by simp only [sameK]; rw [sameK_len r q (by simpa using h), Bool.and_false]
set_option maxHeartbeats 8000000 in
theorem sameF_eq (d : Nat) (us vs : List T) (ag bg : Gk) (ha : us.length < 100000)
    (h : ∀ i j x y q r, us.drop i = x :: q → vs.drop j = y :: r → evalFn Tryd.prog cfg0 100000 d 72 [.tree (encT x), .tree (encT y)] = some (.tree (.bool (sameT x y)), [[], []])) :
    evalFn Tryd.prog cfg0 100000 (d+1) 99 [.tree (.sl (cellsK us) us.length (gr ag)), .tree (.sl (cellsK vs) vs.length (gr bg)), .tree (.fn 72 [])] = some (.tree (.bool (sameK us vs)), [[], [], []]) := by
  rw [evalFn_go _ Tryd.func99 (by unfold Tryd.f99; rfl) (by unfold Tryd.f99; decide) (Nat.le_of_ble_eq_true (by unfold Tryd.f99; rfl)) (by kernel_rfl)]
  by_cases hl : us.length = vs.length
  case neg =>
    have p1 : ((us.length : Int) != (vs.length : Int)) = true := by rw [bne_iff_ne]; omega
    rw [sameK_len us vs hl]
    simp only [zaa, zab, zac, zad, zae, zaf, zag, zah, zai, zaj, zak, zal, zam, zan, zao, zap, zaq, zar, zas, zat, zau, zav, zaw, zax, zay, zaz, zba, zbb, zbc, zbd, zbe, zbf, zbg, zbh, zbi, zbj, Nat.reduceBEq, Bool.or_self, Bool.or_false, Bool.or_true, Bool.and_true, Bool.and_false, Bool.true_and, Bool.false_and, Option.isNone_none, Option.isNone_some, Option.isSome_some, Option.isSome_none, zbk, zbl, zbm, zbn, zbo, zbp, zbq, zbr, zbs, zbt, zbu, zbv, zbw, zbx, zby, zbz, zca, zcb, zcc, zcd, zce, zcf, zcg, zch, zci, zcj, zck, zcl, zcm, zcn, zco, zcp, zcq, zcr, zcs, zct, zcu, zcv, zcw, zcx, zcy, zcz, zda, zdb, zdc, zdd, zde, zdf, Option.getD_some, Option.getD_none, zet, zeu, zev, zew, zex, zey, zez, zfa, Option.map_some, Option.map_none, Option.bind_some, List.map_cons, List.map_nil, List.cons_append, List.nil_append, ↓reduceIte, Nat.reduceEqDiff, Nat.reduceAdd, decide_true, decide_false, Bool.true_eq_false, Bool.false_eq_true, env0, List.getElem?_cons_zero, List.getElem?_cons_succ, zdg, zdh, zdi, zdj, zdk, zdl, zdm, zdn, ia22, ld31, zdo, zdp, lenTk, p1]
    exact finish_b _ _ _ _ _ _ _ (by first | (simp only [zfa, ↓reduceIte, Nat.reduceEqDiff]; done) | (simp only [zfa, ↓reduceIte, Nat.reduceEqDiff]; rfl)) rfl
  have p1 : ((us.length : Int) != (vs.length : Int)) = false := by rw [hl]; exact bne_self_eq_false _
  simp only [zaa, zab, zac, zad, zae, zaf, zag, zah, zai, zaj, zak, zal, zam, zan, zao, zap, zaq, zar, zas, zat, zau, zav, zaw, zax, zay, zaz, zba, zbb, zbc, zbd, zbe, zbf, zbg, zbh, zbi, zbj, Nat.reduceBEq, Bool.or_self, Bool.or_false, Bool.or_true, Bool.and_true, Bool.and_false, Bool.true_and, Bool.false_and, Option.isNone_none, Option.isNone_some, Option.isSome_some, Option.isSome_none, zbk, zbl, zbm, zbn, zbo, zbp, zbq, zbr, zbs, zbt, zbu, zbv, zbw, zbx, zby, zbz, zca, zcb, zcc, zcd, zce, zcf, zcg, zch, zci, zcj, zck, zcl, zcm, zcn, zco, zcp, zcq, zcr, zcs, zct, zcu, zcv, zcw, zcx, zcy, zcz, zda, zdb, zdc, zdd, zde, zdf, Option.getD_some, Option.getD_none, zet, zeu, zev, zew, zex, zey, zez, zfa, Option.map_some, Option.map_none, Option.bind_some, List.map_cons, List.map_nil, List.cons_append, List.nil_append, ↓reduceIte, Nat.reduceEqDiff, Nat.reduceAdd, decide_true, decide_false, Bool.true_eq_false, Bool.false_eq_true, env0, List.getElem?_cons_zero, List.getElem?_cons_succ, zdg, zdh, zdi, zdj, zdk, zdl, zdm, zdn, ia22, ld31, zdo, zdp, lenTk, p1, den_loop]
  refine loop_ends (X := Nat) (fun i env s => env 0 = .sl (cellsK us) us.length (gr ag) ∧ env 1 = .sl (cellsK vs) vs.length (gr bg) ∧ env 2 = .fn 72 [] ∧ env 15 = .sl (cellsK us) us.length (gr ag) ∧ env 16 = .int .i64 (us.length : Int) ∧ env 17 = .int .i64 (i : Int) ∧ i ≤ us.length ∧ sameK (us.drop i) (vs.drop i) = sameK us vs) (fun i => us.length - i) (fun _ => (.tree (.bool (sameK us vs)), [[], [], []])) ?_ 100000 0 _ _ (by omega) ⟨(by first | (simp only [zfa, ↓reduceIte, Nat.reduceEqDiff, env0, List.getElem?_cons_zero, List.getElem?_cons_succ]; done) | (simp only [zfa, ↓reduceIte, Nat.reduceEqDiff, env0, List.getElem?_cons_zero, List.getElem?_cons_succ]; rfl)), (by first | (simp only [zfa, ↓reduceIte, Nat.reduceEqDiff, env0, List.getElem?_cons_zero, List.getElem?_cons_succ]; done) | (simp only [zfa, ↓reduceIte, Nat.reduceEqDiff, env0, List.getElem?_cons_zero, List.getElem?_cons_succ]; rfl)), (by first | (simp only [zfa, ↓reduceIte, Nat.reduceEqDiff, env0, List.getElem?_cons_zero, List.getElem?_cons_succ]; done) | (simp only [zfa, ↓reduceIte, Nat.reduceEqDiff, env0, List.getElem?_cons_zero, List.getElem?_cons_succ]; rfl)), (by first | (simp only [zfa, ↓reduceIte, Nat.reduceEqDiff]; done) | (simp only [zfa, ↓reduceIte, Nat.reduceEqDiff]; rfl)), (by first | (simp only [zfa, ↓reduceIte, Nat.reduceEqDiff]; done) | (simp only [zfa, ↓reduceIte, Nat.reduceEqDiff]; rfl)), (by first | (simp only [zfa, ↓reduceIte, Nat.reduceEqDiff]; done) | (simp only [zfa, ↓reduceIte, Nat.reduceEqDiff]; rfl)), Nat.zero_le _, rfl⟩
  intro k i hx ih env st ⟨e0, e1, e2, e11, e12, e13, hi, hc⟩
  cases hda : us.drop i with
  | nil =>
    have hil : i = us.length := by have := congrArg List.length hda; simp only [List.length_drop, List.length_nil] at this; omega
    have q1 : ¬ ((i : Int) < (us.length : Int)) := by omega
    have hdb : vs.drop i = [] := List.drop_eq_nil_of_le (by omega)
    rw [hda, hdb] at hc
    simp only [sameK] at hc
    rw [← hc]
    simp only [zaa, zab, zac, zad, zae, zaf, zag, zah, zai, zaj, zak, zal, zam, zan, zao, zap, zaq, zar, zas, zat, zau, zav, zaw, zax, zay, zaz, zba, zbb, zbc, zbd, zbe, zbf, zbg, zbh, zbi, zbj, Nat.reduceBEq, Bool.or_self, Bool.or_false, Bool.or_true, Bool.and_true, Bool.and_false, Bool.true_and, Bool.false_and, Option.isNone_none, Option.isNone_some, Option.isSome_some, Option.isSome_none, zbk, zbl, zbm, zbn, zbo, zbp, zbq, zbr, zbs, zbt, zbu, zbv, zbw, zbx, zby, zbz, zca, zcb, zcc, zcd, zce, zcf, zcg, zch, zci, zcj, zck, zcl, zcm, zcn, zco, zcp, zcq, zcr, zcs, zct, zcu, zcv, zcw, zcx, zcy, zcz, zda, zdb, zdc, zdd, zde, zdf, Option.getD_some, Option.getD_none, zet, zeu, zev, zew, zex, zey, zez, zfa, Option.map_some, Option.map_none, Option.bind_some, List.map_cons, List.map_nil, List.cons_append, List.nil_append, ↓reduceIte, Nat.reduceEqDiff, Nat.reduceAdd, decide_true, decide_false, Bool.true_eq_false, Bool.false_eq_true, zdg, zdh, zdi, zdj, zdk, zdl, zdm, zdn, ia22, ld31, zdo, zdp, e0, e1, e2, e11, e12, e13, q1]
    exact finish_b _ _ _ _ _ _ _ (by first | (simp only [zfa, ↓reduceIte, Nat.reduceEqDiff]; done) | (simp only [zfa, ↓reduceIte, Nat.reduceEqDiff]; rfl)) rfl
  | cons x q =>
    have hil : i < us.length := by have := congrArg List.length hda; simp only [List.length_drop, List.length_cons] at this; omega
    have hjl : i < vs.length := by omega
    have q1 : (i : Int) < (us.length : Int) := by omega
    have ia := fun st => ia_K st us (gr ag) i hil
    rw [hda] at ia hc
    have ld := fun st => ld_K st x q
    simp only [encT] at ld
    cases hdb : vs.drop i with
    | nil => have := congrArg List.length hdb; simp only [List.length_drop, List.length_nil] at this; omega
    | cons y r =>
      have ib := fun st => ia_K st vs (gr bg) i hjl
      rw [hdb] at ib hc
      have ldb := fun st => ld_K st y r
      simp only [encT] at ldb
      simp only [sameK] at hc
      have cc := fun D st => callA_trees (cfg := cfg0) (d := D) (s := st) (f := 72) (vs := [encT x, encT y]) rfl (h i i x y q r hda hdb)
      simp only [encT] at cc
      have f5 := i_add Tryd.prog 3 (i : Int) 1 (by omega) (by omega)
      cases g : sameT x y with
      | true =>
        rw [g, Bool.true_and] at hc
        rw [g] at cc
        simp only [zaa, zab, zac, zad, zae, zaf, zag, zah, zai, zaj, zak, zal, zam, zan, zao, zap, zaq, zar, zas, zat, zau, zav, zaw, zax, zay, zaz, zba, zbb, zbc, zbd, zbe, zbf, zbg, zbh, zbi, zbj, Nat.reduceBEq, Bool.or_self, Bool.or_false, Bool.or_true, Bool.and_true, Bool.and_false, Bool.true_and, Bool.false_and, Option.isNone_none, Option.isNone_some, Option.isSome_some, Option.isSome_none, zbk, zbl, zbm, zbn, zbo, zbp, zbq, zbr, zbs, zbt, zbu, zbv, zbw, zbx, zby, zbz, zca, zcb, zcc, zcd, zce, zcf, zcg, zch, zci, zcj, zck, zcl, zcm, zcn, zco, zcp, zcq, zcr, zcs, zct, zcu, zcv, zcw, zcx, zcy, zcz, zda, zdb, zdc, zdd, zde, zdf, Option.getD_some, Option.getD_none, zet, zeu, zev, zew, zex, zey, zez, zfa, Option.map_some, Option.map_none, Option.bind_some, List.map_cons, List.map_nil, List.cons_append, List.nil_append, ↓reduceIte, Nat.reduceEqDiff, Nat.reduceAdd, decide_true, decide_false, Bool.true_eq_false, Bool.false_eq_true, zdg, zdh, zdi, zdj, zdk, zdl, zdm, zdn, ia22, ld31, zdo, zdp, zdq, zdr, zds, zdt, zdu, zdv, zdw, zdx, zdy, zdz, zea, zeb, zec, fa_0, fa_1, zed, bd_0, bd_2, zee, fd_1, zef, Nat.zero_add, zem, zen, zeo, zep, zeq, zer, zes, e0, e1, e2, e11, e12, e13, q1, lenTk, ia, ib, ld, ldb, zeroT, st_Tt, stT_6, ldT_u, cc, unA_not', Bool.not_true, f5]
        exact ih (i + 1) _ _ (by omega) rfl ⟨(by first | (simp only [zfa, ↓reduceIte, Nat.reduceEqDiff, e0]; done) | (simp only [zfa, ↓reduceIte, Nat.reduceEqDiff, e0]; rfl)), (by first | (simp only [zfa, ↓reduceIte, Nat.reduceEqDiff, e1]; done) | (simp only [zfa, ↓reduceIte, Nat.reduceEqDiff, e1]; rfl)), (by first | (simp only [zfa, ↓reduceIte, Nat.reduceEqDiff, e2]; done) | (simp only [zfa, ↓reduceIte, Nat.reduceEqDiff, e2]; rfl)), (by first | (simp only [zfa, ↓reduceIte, Nat.reduceEqDiff, e11]; done) | (simp only [zfa, ↓reduceIte, Nat.reduceEqDiff, e11]; rfl)), (by first | (simp only [zfa, ↓reduceIte, Nat.reduceEqDiff, e12]; done) | (simp only [zfa, ↓reduceIte, Nat.reduceEqDiff, e12]; rfl)), (by first | (simp only [zfa, ↓reduceIte, Nat.reduceEqDiff]; done) | (simp only [zfa, ↓reduceIte, Nat.reduceEqDiff]; rfl)), by omega, by rw [drop_next hda, drop_next hdb]; exact hc⟩
      | false =>
        rw [g, Bool.false_and] at hc
        rw [g] at cc
        rw [← hc]
        simp only [zaa, zab, zac, zad, zae, zaf, zag, zah, zai, zaj, zak, zal, zam, zan, zao, zap, zaq, zar, zas, zat, zau, zav, zaw, zax, zay, zaz, zba, zbb, zbc, zbd, zbe, zbf, zbg, zbh, zbi, zbj, Nat.reduceBEq, Bool.or_self, Bool.or_false, Bool.or_true, Bool.and_true, Bool.and_false, Bool.true_and, Bool.false_and, Option.isNone_none, Option.isNone_some, Option.isSome_some, Option.isSome_none, zbk, zbl, zbm, zbn, zbo, zbp, zbq, zbr, zbs, zbt, zbu, zbv, zbw, zbx, zby, zbz, zca, zcb, zcc, zcd, zce, zcf, zcg, zch, zci, zcj, zck, zcl, zcm, zcn, zco, zcp, zcq, zcr, zcs, zct, zcu, zcv, zcw, zcx, zcy, zcz, zda, zdb, zdc, zdd, zde, zdf, Option.getD_some, Option.getD_none, zet, zeu, zev, zew, zex, zey, zez, zfa, Option.map_some, Option.map_none, Option.bind_some, List.map_cons, List.map_nil, List.cons_append, List.nil_append, ↓reduceIte, Nat.reduceEqDiff, Nat.reduceAdd, decide_true, decide_false, Bool.true_eq_false, Bool.false_eq_true, zdg, zdh, zdi, zdj, zdk, zdl, zdm, zdn, ia22, ld31, zdo, zdp, zdq, zdr, zds, zdt, zdu, zdv, zdw, zdx, zdy, zdz, zea, zeb, zec, fa_0, fa_1, zed, bd_0, bd_2, zee, fd_1, zef, Nat.zero_add, zem, zen, zeo, zep, zeq, zer, zes, e0, e1, e2, e11, e12, e13, q1, lenTk, ia, ib, ld, ldb, zeroT, st_Tt, stT_6, ldT_u, cc, unA_not', Bool.not_false, f5]
        exact finish_b _ _ _ _ _ _ _ (by first | (simp only [zfa, ↓reduceIte, Nat.reduceEqDiff]; done) | (simp only [zfa, ↓reduceIte, Nat.reduceEqDiff]; rfl)) rfl
theorem isTree_K (g : Gk) (ks : List T) : isTree (.sl (cellsK ks) ks.length (gr g)) = true := by cases g <;> rfl
theorem all_eq (d : Nat) (us vs : List T) (ag bg : Gk) (ha : us.length < 100000)
    (h : ∀ i j x y q r, us.drop i = x :: q → vs.drop j = y :: r → evalFn Tryd.prog cfg0 100000 d 72 [.tree (encT x), .tree (encT y)] = some (.tree (.bool (sameT x y)), [[], []])) :
    evalFn Tryd.prog cfg0 100000 (d+2) 89 [.tree (.sl (cellsK us) us.length (gr ag)), .tree (.sl (cellsK vs) vs.length (gr bg))] = some (.tree (.bool (sameK us vs)), [[], []]) := by
  rw [evalFn_go _ Tryd.func89 (by unfold Tryd.f89; rfl) (by unfold Tryd.f89; decide) (Nat.le_of_ble_eq_true (by unfold Tryd.f89; rfl)) (by kernel_rfl)]
  have hf := sameF_eq d us vs ag bg ha h
  have c1 := fun D st => callA_trees (cfg := cfg0) (d := D) (s := st) (f := 99) (vs := [.sl (cellsK us) us.length (gr ag), .sl (cellsK vs) vs.length (gr bg), .fn 72 []]) (by simp only [List.all_cons, isTree_K, Bool.true_and]; rfl) hf
  simp only [zaa, zab, zac, zad, zae, zaf, zag, zah, zai, zaj, zak, zal, zam, zan, zao, zap, zaq, zar, zas, zat, zau, zav, zaw, zax, zay, zaz, zba, zbb, zbc, zbd, zbe, zbf, zbg, zbh, zbi, zbj, Nat.reduceBEq, Bool.or_self, Bool.or_false, Bool.or_true, Bool.and_true, Bool.and_false, Bool.true_and, Bool.false_and, Option.isNone_none, Option.isNone_some, Option.isSome_some, Option.isSome_none, zbk, zbl, zbm, zbn, zbo, zbp, zbq, zbr, zbs, zbt, zbu, zbv, zbw, zbx, zby, zbz, zca, zcb, zcc, zcd, zce, zcf, zcg, zch, zci, zcj, zck, zcl, zcm, zcn, zco, zcp, zcq, zcr, zcs, zct, zcu, zcv, zcw, zcx, zcy, zcz, zda, zdb, zdc, zdd, zde, zdf, Option.getD_some, Option.getD_none, zet, zeu, zev, zew, zex, zey, zez, zfa, Option.map_some, Option.map_none, Option.bind_some, List.map_cons, List.map_nil, List.cons_append, List.nil_append, ↓reduceIte, Nat.reduceEqDiff, Nat.reduceAdd, decide_true, decide_false, Bool.true_eq_false, Bool.false_eq_true, env0, List.getElem?_cons_zero, List.getElem?_cons_succ, zdg, zdh, zdi, zdj, zdk, zdl, zdm, zdn, ia22, ld31, zdo, zdp, c1]
  exact finish_b _ _ _ _ _ _ _ (by first | (simp only [zfa, ↓reduceIte, Nat.reduceEqDiff]; done) | (simp only [zfa, ↓reduceIte, Nat.reduceEqDiff]; rfl)) rfl
theorem faN_0' (s : St) (p k off : Nat) : fieldAddrA Tryd.prog 27 s (.ptr p k off) 0 = faE (s p) p k off := faN_0 s p k off
theorem ldB_1 (t k : Nat) (a b c d e f : AV) : ldE Tryd.prog 4 ⟨t, .buf [a, b, c, d, e, f]⟩ k 1 = if t = k then some b else none := by
  rw [ldE, cellsE_buf]
  by_cases h : t = k
  · simp [h, partA, sh4]
  · simp [h]
theorem ldB_2 (t k : Nat) (a b c d e f : AV) : ldE Tryd.prog 25 ⟨t, .buf [a, b, c, d, e, f]⟩ k 2 = if t = k then some c else none := by
  rw [ldE, cellsE_buf]
  by_cases h : t = k
  · simp [h, partA, sh22]
  · simp [h]
/-- So many limbs at most, everywhere; so many kids. -/
theorem strEq (a b : List UInt8) : (a == b) = decide (a = b) := by rw [Bool.eq_iff_iff, beq_iff_eq, decide_eq_true_eq]
theorem intEq (x y : Int) : (x == y) = decide (x = y) := by rw [Bool.eq_iff_iff, beq_iff_eq, decide_eq_true_eq]
theorem boolEq (x y : Bool) : (x == y) = decide (x = y) := by cases x <;> cases y <;> rfl
mutual
def fewT (m : Nat) : T → Prop
  | .mk _ _ _ l _ _ _ ks => l.length < m ∧ ks.length < m ∧ fewK m ks
def fewK (m : Nat) : List T → Prop
  | [] => True
  | t :: r => fewT m t ∧ fewK m r
end
theorem fewK_at (m : Nat) : ∀ (ks : List T) (i : Nat) (t : T) (r : List T), ks.drop i = t :: r → fewK m ks → fewT m t
  | [], i, t, r, h, _ => by simp at h
  | a :: q, 0, t, r, h, hw => by simp only [List.drop_zero, List.cons.injEq] at h; obtain ⟨rfl, rfl⟩ := h; simp only [fewK] at hw; exact hw.1
  | a :: q, i + 1, t, r, h, hw => by simp only [fewK] at hw; exact fewK_at m q i t r (by simpa using h) hw.2
set_option maxHeartbeats 32000000 in
theorem tsame_eq : ∀ (d D : Nat) (a0 b0 : T), htT a0 ≤ d → 3 * d ≤ D → fewT 100000 a0 →
    evalFn Tryd.prog cfg0 100000 D 72 [.tree (encT a0), .tree (encT b0)] = some (.tree (.bool (sameT a0 b0)), [[], []])
  | 0, _, a0, b0, hd, _, hn => by obtain ⟨k, b, lg, l, s, m, kg, ks⟩ := a0; simp only [htT] at hd; omega
  | d + 1, D, a0, b0, hd, hD, hn => by
    obtain ⟨m, rfl⟩ : ∃ m, D = m + 3 := ⟨D - 3, by omega⟩
    have IH := fun D h a b h1 h2 => tsame_eq d D a b h1 h h2
    rw [evalFn_go _ Tryd.func72 (by unfold Tryd.f72; rfl) (by unfold Tryd.f72; decide) (Nat.le_of_ble_eq_true (by unfold Tryd.f72; rfl)) (by kernel_rfl)]
    obtain ⟨k, n1, lg, l, s, i1, kg, ks⟩ := a0
    obtain ⟨k', n2, lg', l', s', i2, kg', ks'⟩ := b0
    have hf : l.length < 100000 ∧ ks.length < 100000 ∧ fewK 100000 ks := by simp only [fewT] at hn; exact hn
    have hhk : htK ks ≤ d := by simp only [htT] at hd; omega
    have c1 := fun D st => callA_trees (cfg := cfg0) (d := D) (s := st) (f := 88) (vs := [encL lg l, encL lg' l']) (by cases lg <;> cases lg' <;> rfl) (eqLG_eq 100000 (m+1) lg lg' l l' hf.1 (by omega))
    have eb := bool_eql 4 tk4
    have ha := all_eq m ks ks' kg kg' hf.2.1 (fun i j x y q r h1 h2 => IH m (by omega) x y (by have := kids_ht ks i x q h1; omega) (fewK_at _ ks i x q h1 hf.2.2))
    have c2 := fun D st => callA_trees (cfg := cfg0) (d := D) (s := st) (f := 89) (vs := [.sl (cellsK ks) ks.length (gr kg), .sl (cellsK ks') ks'.length (gr kg')]) (by simp only [List.all_cons, isTree_K, Bool.true_and]; rfl) ha
    by_cases hk : k = k'
    case neg =>
      have p1 : (k != k') = true := by rw [bne_iff_ne]; exact hk
      have hr : sameT (.mk k n1 lg l s i1 kg ks) (.mk k' n2 lg' l' s' i2 kg' ks') = false := by first | (simp [sameT, kindT, sgnT, limT, strT, nT, kidsT, hk]; done) | (simp [sameT, kindT, sgnT, limT, strT, nT, kidsT, hk]; rfl)
      rw [hr]
      simp only [zaa, zab, zac, zad, zae, zaf, zag, zah, zai, zaj, zak, zal, zam, zan, zao, zap, zaq, zar, zas, zat, zau, zav, zaw, zax, zay, zaz, zba, zbb, zbc, zbd, zbe, zbf, zbg, zbh, zbi, zbj, Nat.reduceBEq, Bool.or_self, Bool.or_false, Bool.or_true, Bool.and_true, Bool.and_false, Bool.true_and, Bool.false_and, Option.isNone_none, Option.isNone_some, Option.isSome_some, Option.isSome_none, zbk, zbl, zbm, zbn, zbo, zbp, zbq, zbr, zbs, zbt, zbu, zbv, zbw, zbx, zby, zbz, zca, zcb, zcc, zcd, zce, zcf, zcg, zch, zci, zcj, zck, zcl, zcm, zcn, zco, zcp, zcq, zcr, zcs, zct, zcu, zcv, zcw, zcx, zcy, zcz, zda, zdb, zdc, zdd, zde, zdf, Option.getD_some, Option.getD_none, zet, zeu, zev, zew, zex, zey, zez, zfa, Option.map_some, Option.map_none, Option.bind_some, List.map_cons, List.map_nil, List.cons_append, List.nil_append, ↓reduceIte, Nat.reduceEqDiff, Nat.reduceAdd, decide_true, decide_false, Bool.true_eq_false, Bool.false_eq_true, env0, List.getElem?_cons_zero, List.getElem?_cons_succ, zdg, zdh, zdi, zdj, zdk, zdl, zdm, zdn, ia22, ld31, zdo, zdp, zdq, zdr, zds, zdt, zdu, zdv, zdw, zdx, zdy, zdz, zea, zeb, zec, fa_0, fa_1, zed, bd_0, bd_2, zee, fd_1, zef, Nat.zero_add, encT, cellsT, faT_0, ldT_0, p1]
      exact finish_b _ _ _ _ _ _ _ (by first | (simp only [zfa, ↓reduceIte, Nat.reduceEqDiff]; done) | (simp only [zfa, ↓reduceIte, Nat.reduceEqDiff]; rfl)) rfl
    subst hk
    have iq : (i1 == i2) = decide (i1 = i2) := intEq _ _
    have p1 : (k != k) = false := bne_self_eq_false _
    have iq : (i1 == i2) = decide (i1 = i2) := intEq _ _
    by_cases h1 : k = 1
    · subst h1
      have hr : sameT (.mk 1 n1 lg l s i1 kg ks) (.mk 1 n2 lg' l' s' i2 kg' ks') = (decide (n1 = n2) && decide (l = l')) := by first | (simp [sameT, kindT, sgnT, limT, strT, nT, kidsT]; done) | (simp [sameT, kindT, sgnT, limT, strT, nT, kidsT]; rfl)
      by_cases g : n1 = n2
      · have g' : (n1 == n2) = true := beq_iff_eq.mpr g
        rw [hr, decide_eq_true g, Bool.true_and]
        simp only [zaa, zab, zac, zad, zae, zaf, zag, zah, zai, zaj, zak, zal, zam, zan, zao, zap, zaq, zar, zas, zat, zau, zav, zaw, zax, zay, zaz, zba, zbb, zbc, zbd, zbe, zbf, zbg, zbh, zbi, zbj, Nat.reduceBEq, Bool.or_self, Bool.or_false, Bool.or_true, Bool.and_true, Bool.and_false, Bool.true_and, Bool.false_and, Option.isNone_none, Option.isNone_some, Option.isSome_some, Option.isSome_none, zbk, zbl, zbm, zbn, zbo, zbp, zbq, zbr, zbs, zbt, zbu, zbv, zbw, zbx, zby, zbz, zca, zcb, zcc, zcd, zce, zcf, zcg, zch, zci, zcj, zck, zcl, zcm, zcn, zco, zcp, zcq, zcr, zcs, zct, zcu, zcv, zcw, zcx, zcy, zcz, zda, zdb, zdc, zdd, zde, zdf, Option.getD_some, Option.getD_none, zet, zeu, zev, zew, zex, zey, zez, zfa, Option.map_some, Option.map_none, Option.bind_some, List.map_cons, List.map_nil, List.cons_append, List.nil_append, ↓reduceIte, Nat.reduceEqDiff, Nat.reduceAdd, decide_true, decide_false, Bool.true_eq_false, Bool.false_eq_true, env0, List.getElem?_cons_zero, List.getElem?_cons_succ, zdg, zdh, zdi, zdj, zdk, zdl, zdm, zdn, ia22, ld31, zdo, zdp, zdq, zdr, zds, zdt, zdu, zdv, zdw, zdx, zdy, zdz, zea, zeb, zec, fa_0, fa_1, zed, bd_0, bd_2, zee, fd_1, zef, Nat.zero_add, encT, cellsT, faT_0, faT_1, faT_2, faT_3, faT_4, faN_0, faN_1, ldT_0, ldT_2, ldT_3, ldT_4, ldB_1, ldB_2, Nat.reduceAdd, p1, i_eqlV, Int.reduceBEq, eb, g', c1]
        exact finish_b _ _ _ _ _ _ _ (by first | (simp only [zfa, ↓reduceIte, Nat.reduceEqDiff]; done) | (simp only [zfa, ↓reduceIte, Nat.reduceEqDiff]; rfl)) rfl
      · have g' : (n1 == n2) = false := beq_eq_false_iff_ne.mpr g
        rw [hr, decide_eq_false g, Bool.false_and]
        simp only [zaa, zab, zac, zad, zae, zaf, zag, zah, zai, zaj, zak, zal, zam, zan, zao, zap, zaq, zar, zas, zat, zau, zav, zaw, zax, zay, zaz, zba, zbb, zbc, zbd, zbe, zbf, zbg, zbh, zbi, zbj, Nat.reduceBEq, Bool.or_self, Bool.or_false, Bool.or_true, Bool.and_true, Bool.and_false, Bool.true_and, Bool.false_and, Option.isNone_none, Option.isNone_some, Option.isSome_some, Option.isSome_none, zbk, zbl, zbm, zbn, zbo, zbp, zbq, zbr, zbs, zbt, zbu, zbv, zbw, zbx, zby, zbz, zca, zcb, zcc, zcd, zce, zcf, zcg, zch, zci, zcj, zck, zcl, zcm, zcn, zco, zcp, zcq, zcr, zcs, zct, zcu, zcv, zcw, zcx, zcy, zcz, zda, zdb, zdc, zdd, zde, zdf, Option.getD_some, Option.getD_none, zet, zeu, zev, zew, zex, zey, zez, zfa, Option.map_some, Option.map_none, Option.bind_some, List.map_cons, List.map_nil, List.cons_append, List.nil_append, ↓reduceIte, Nat.reduceEqDiff, Nat.reduceAdd, decide_true, decide_false, Bool.true_eq_false, Bool.false_eq_true, env0, List.getElem?_cons_zero, List.getElem?_cons_succ, zdg, zdh, zdi, zdj, zdk, zdl, zdm, zdn, ia22, ld31, zdo, zdp, zdq, zdr, zds, zdt, zdu, zdv, zdw, zdx, zdy, zdz, zea, zeb, zec, fa_0, fa_1, zed, bd_0, bd_2, zee, fd_1, zef, Nat.zero_add, encT, cellsT, faT_0, faT_1, faT_2, faT_3, faT_4, faN_0, faN_1, ldT_0, ldT_2, ldT_3, ldT_4, ldB_1, ldB_2, Nat.reduceAdd, p1, i_eqlV, Int.reduceBEq, eb, g', c1]
        exact finish_b _ _ _ _ _ _ _ (by first | (simp only [zfa, ↓reduceIte, Nat.reduceEqDiff]; done) | (simp only [zfa, ↓reduceIte, Nat.reduceEqDiff]; rfl)) rfl
    have b1 : (k == 1) = false := beq_eq_false_iff_ne.mpr h1
    by_cases h6 : k = 6
    · subst h6
      have hr : sameT (.mk 6 n1 lg l s i1 kg ks) (.mk 6 n2 lg' l' s' i2 kg' ks') = decide (s = s') := by first | (simp [sameT, kindT, sgnT, limT, strT, nT, kidsT]; done) | (simp [sameT, kindT, sgnT, limT, strT, nT, kidsT]; rfl)
      rw [hr]
      simp only [zaa, zab, zac, zad, zae, zaf, zag, zah, zai, zaj, zak, zal, zam, zan, zao, zap, zaq, zar, zas, zat, zau, zav, zaw, zax, zay, zaz, zba, zbb, zbc, zbd, zbe, zbf, zbg, zbh, zbi, zbj, Nat.reduceBEq, Bool.or_self, Bool.or_false, Bool.or_true, Bool.and_true, Bool.and_false, Bool.true_and, Bool.false_and, Option.isNone_none, Option.isNone_some, Option.isSome_some, Option.isSome_none, zbk, zbl, zbm, zbn, zbo, zbp, zbq, zbr, zbs, zbt, zbu, zbv, zbw, zbx, zby, zbz, zca, zcb, zcc, zcd, zce, zcf, zcg, zch, zci, zcj, zck, zcl, zcm, zcn, zco, zcp, zcq, zcr, zcs, zct, zcu, zcv, zcw, zcx, zcy, zcz, zda, zdb, zdc, zdd, zde, zdf, Option.getD_some, Option.getD_none, zet, zeu, zev, zew, zex, zey, zez, zfa, Option.map_some, Option.map_none, Option.bind_some, List.map_cons, List.map_nil, List.cons_append, List.nil_append, ↓reduceIte, Nat.reduceEqDiff, Nat.reduceAdd, decide_true, decide_false, Bool.true_eq_false, Bool.false_eq_true, env0, List.getElem?_cons_zero, List.getElem?_cons_succ, zdg, zdh, zdi, zdj, zdk, zdl, zdm, zdn, ia22, ld31, zdo, zdp, zdq, zdr, zds, zdt, zdu, zdv, zdw, zdx, zdy, zdz, zea, zeb, zec, fa_0, fa_1, zed, bd_0, bd_2, zee, fd_1, zef, Nat.zero_add, encT, cellsT, faT_0, faT_1, faT_2, faT_3, faT_4, faN_0, faN_1, ldT_0, ldT_2, ldT_3, ldT_4, ldB_1, ldB_2, Nat.reduceAdd, p1, i_eqlV, Int.reduceBEq, s_eqlS, strEq]
      exact finish_b _ _ _ _ _ _ _ (by first | (simp only [zfa, ↓reduceIte, Nat.reduceEqDiff]; done) | (simp only [zfa, ↓reduceIte, Nat.reduceEqDiff]; rfl)) rfl
    have b6 : (k == 6) = false := beq_eq_false_iff_ne.mpr h6
    by_cases h2 : k = 2
    · subst h2
      have hr : sameT (.mk 2 n1 lg l s i1 kg ks) (.mk 2 n2 lg' l' s' i2 kg' ks') = decide (s = s') := by first | (simp [sameT, kindT, sgnT, limT, strT, nT, kidsT]; done) | (simp [sameT, kindT, sgnT, limT, strT, nT, kidsT]; rfl)
      rw [hr]
      simp only [zaa, zab, zac, zad, zae, zaf, zag, zah, zai, zaj, zak, zal, zam, zan, zao, zap, zaq, zar, zas, zat, zau, zav, zaw, zax, zay, zaz, zba, zbb, zbc, zbd, zbe, zbf, zbg, zbh, zbi, zbj, Nat.reduceBEq, Bool.or_self, Bool.or_false, Bool.or_true, Bool.and_true, Bool.and_false, Bool.true_and, Bool.false_and, Option.isNone_none, Option.isNone_some, Option.isSome_some, Option.isSome_none, zbk, zbl, zbm, zbn, zbo, zbp, zbq, zbr, zbs, zbt, zbu, zbv, zbw, zbx, zby, zbz, zca, zcb, zcc, zcd, zce, zcf, zcg, zch, zci, zcj, zck, zcl, zcm, zcn, zco, zcp, zcq, zcr, zcs, zct, zcu, zcv, zcw, zcx, zcy, zcz, zda, zdb, zdc, zdd, zde, zdf, Option.getD_some, Option.getD_none, zet, zeu, zev, zew, zex, zey, zez, zfa, Option.map_some, Option.map_none, Option.bind_some, List.map_cons, List.map_nil, List.cons_append, List.nil_append, ↓reduceIte, Nat.reduceEqDiff, Nat.reduceAdd, decide_true, decide_false, Bool.true_eq_false, Bool.false_eq_true, env0, List.getElem?_cons_zero, List.getElem?_cons_succ, zdg, zdh, zdi, zdj, zdk, zdl, zdm, zdn, ia22, ld31, zdo, zdp, zdq, zdr, zds, zdt, zdu, zdv, zdw, zdx, zdy, zdz, zea, zeb, zec, fa_0, fa_1, zed, bd_0, bd_2, zee, fd_1, zef, Nat.zero_add, encT, cellsT, faT_0, faT_1, faT_2, faT_3, faT_4, faN_0, faN_1, ldT_0, ldT_2, ldT_3, ldT_4, ldB_1, ldB_2, Nat.reduceAdd, p1, i_eqlV, Int.reduceBEq, s_eqlS, strEq]
      exact finish_b _ _ _ _ _ _ _ (by first | (simp only [zfa, ↓reduceIte, Nat.reduceEqDiff]; done) | (simp only [zfa, ↓reduceIte, Nat.reduceEqDiff]; rfl)) rfl
    have b2 : (k == 2) = false := beq_eq_false_iff_ne.mpr h2
    by_cases h8 : k = 8
    · subst h8
      have hr : sameT (.mk 8 n1 lg l s i1 kg ks) (.mk 8 n2 lg' l' s' i2 kg' ks') = (decide (s = s') && decide (i1 = i2)) := by first | (simp [sameT, kindT, sgnT, limT, strT, nT, kidsT]; done) | (simp [sameT, kindT, sgnT, limT, strT, nT, kidsT]; rfl)
      by_cases g : s = s'
      · have g' : (s == s') = true := beq_iff_eq.mpr g
        rw [hr, decide_eq_true g, Bool.true_and]
        simp only [zaa, zab, zac, zad, zae, zaf, zag, zah, zai, zaj, zak, zal, zam, zan, zao, zap, zaq, zar, zas, zat, zau, zav, zaw, zax, zay, zaz, zba, zbb, zbc, zbd, zbe, zbf, zbg, zbh, zbi, zbj, Nat.reduceBEq, Bool.or_self, Bool.or_false, Bool.or_true, Bool.and_true, Bool.and_false, Bool.true_and, Bool.false_and, Option.isNone_none, Option.isNone_some, Option.isSome_some, Option.isSome_none, zbk, zbl, zbm, zbn, zbo, zbp, zbq, zbr, zbs, zbt, zbu, zbv, zbw, zbx, zby, zbz, zca, zcb, zcc, zcd, zce, zcf, zcg, zch, zci, zcj, zck, zcl, zcm, zcn, zco, zcp, zcq, zcr, zcs, zct, zcu, zcv, zcw, zcx, zcy, zcz, zda, zdb, zdc, zdd, zde, zdf, Option.getD_some, Option.getD_none, zet, zeu, zev, zew, zex, zey, zez, zfa, Option.map_some, Option.map_none, Option.bind_some, List.map_cons, List.map_nil, List.cons_append, List.nil_append, ↓reduceIte, Nat.reduceEqDiff, Nat.reduceAdd, decide_true, decide_false, Bool.true_eq_false, Bool.false_eq_true, env0, List.getElem?_cons_zero, List.getElem?_cons_succ, zdg, zdh, zdi, zdj, zdk, zdl, zdm, zdn, ia22, ld31, zdo, zdp, zdq, zdr, zds, zdt, zdu, zdv, zdw, zdx, zdy, zdz, zea, zeb, zec, fa_0, fa_1, zed, bd_0, bd_2, zee, fd_1, zef, Nat.zero_add, encT, cellsT, faT_0, faT_1, faT_2, faT_3, faT_4, faN_0, faN_1, ldT_0, ldT_2, ldT_3, ldT_4, ldB_1, ldB_2, Nat.reduceAdd, p1, i_eqlV, Int.reduceBEq, eb, g', s_eqlS, iq]
        exact finish_b _ _ _ _ _ _ _ (by first | (simp only [zfa, ↓reduceIte, Nat.reduceEqDiff]; done) | (simp only [zfa, ↓reduceIte, Nat.reduceEqDiff]; rfl)) rfl
      · have g' : (s == s') = false := beq_eq_false_iff_ne.mpr g
        rw [hr, decide_eq_false g, Bool.false_and]
        simp only [zaa, zab, zac, zad, zae, zaf, zag, zah, zai, zaj, zak, zal, zam, zan, zao, zap, zaq, zar, zas, zat, zau, zav, zaw, zax, zay, zaz, zba, zbb, zbc, zbd, zbe, zbf, zbg, zbh, zbi, zbj, Nat.reduceBEq, Bool.or_self, Bool.or_false, Bool.or_true, Bool.and_true, Bool.and_false, Bool.true_and, Bool.false_and, Option.isNone_none, Option.isNone_some, Option.isSome_some, Option.isSome_none, zbk, zbl, zbm, zbn, zbo, zbp, zbq, zbr, zbs, zbt, zbu, zbv, zbw, zbx, zby, zbz, zca, zcb, zcc, zcd, zce, zcf, zcg, zch, zci, zcj, zck, zcl, zcm, zcn, zco, zcp, zcq, zcr, zcs, zct, zcu, zcv, zcw, zcx, zcy, zcz, zda, zdb, zdc, zdd, zde, zdf, Option.getD_some, Option.getD_none, zet, zeu, zev, zew, zex, zey, zez, zfa, Option.map_some, Option.map_none, Option.bind_some, List.map_cons, List.map_nil, List.cons_append, List.nil_append, ↓reduceIte, Nat.reduceEqDiff, Nat.reduceAdd, decide_true, decide_false, Bool.true_eq_false, Bool.false_eq_true, env0, List.getElem?_cons_zero, List.getElem?_cons_succ, zdg, zdh, zdi, zdj, zdk, zdl, zdm, zdn, ia22, ld31, zdo, zdp, zdq, zdr, zds, zdt, zdu, zdv, zdw, zdx, zdy, zdz, zea, zeb, zec, fa_0, fa_1, zed, bd_0, bd_2, zee, fd_1, zef, Nat.zero_add, encT, cellsT, faT_0, faT_1, faT_2, faT_3, faT_4, faN_0, faN_1, ldT_0, ldT_2, ldT_3, ldT_4, ldB_1, ldB_2, Nat.reduceAdd, p1, i_eqlV, Int.reduceBEq, eb, g', s_eqlS, iq]
        exact finish_b _ _ _ _ _ _ _ (by first | (simp only [zfa, ↓reduceIte, Nat.reduceEqDiff]; done) | (simp only [zfa, ↓reduceIte, Nat.reduceEqDiff]; rfl)) rfl
    have b8 : (k == 8) = false := beq_eq_false_iff_ne.mpr h8
    by_cases h9 : k = 9
    · subst h9
      have hr : sameT (.mk 9 n1 lg l s i1 kg ks) (.mk 9 n2 lg' l' s' i2 kg' ks') = decide (i1 = i2) := by first | (simp [sameT, kindT, sgnT, limT, strT, nT, kidsT]; done) | (simp [sameT, kindT, sgnT, limT, strT, nT, kidsT]; rfl)
      rw [hr]
      simp only [zaa, zab, zac, zad, zae, zaf, zag, zah, zai, zaj, zak, zal, zam, zan, zao, zap, zaq, zar, zas, zat, zau, zav, zaw, zax, zay, zaz, zba, zbb, zbc, zbd, zbe, zbf, zbg, zbh, zbi, zbj, Nat.reduceBEq, Bool.or_self, Bool.or_false, Bool.or_true, Bool.and_true, Bool.and_false, Bool.true_and, Bool.false_and, Option.isNone_none, Option.isNone_some, Option.isSome_some, Option.isSome_none, zbk, zbl, zbm, zbn, zbo, zbp, zbq, zbr, zbs, zbt, zbu, zbv, zbw, zbx, zby, zbz, zca, zcb, zcc, zcd, zce, zcf, zcg, zch, zci, zcj, zck, zcl, zcm, zcn, zco, zcp, zcq, zcr, zcs, zct, zcu, zcv, zcw, zcx, zcy, zcz, zda, zdb, zdc, zdd, zde, zdf, Option.getD_some, Option.getD_none, zet, zeu, zev, zew, zex, zey, zez, zfa, Option.map_some, Option.map_none, Option.bind_some, List.map_cons, List.map_nil, List.cons_append, List.nil_append, ↓reduceIte, Nat.reduceEqDiff, Nat.reduceAdd, decide_true, decide_false, Bool.true_eq_false, Bool.false_eq_true, env0, List.getElem?_cons_zero, List.getElem?_cons_succ, zdg, zdh, zdi, zdj, zdk, zdl, zdm, zdn, ia22, ld31, zdo, zdp, zdq, zdr, zds, zdt, zdu, zdv, zdw, zdx, zdy, zdz, zea, zeb, zec, fa_0, fa_1, zed, bd_0, bd_2, zee, fd_1, zef, Nat.zero_add, encT, cellsT, faT_0, faT_1, faT_2, faT_3, faT_4, faN_0, faN_1, ldT_0, ldT_2, ldT_3, ldT_4, ldB_1, ldB_2, Nat.reduceAdd, p1, i_eqlV, Int.reduceBEq, iq]
      exact finish_b _ _ _ _ _ _ _ (by first | (simp only [zfa, ↓reduceIte, Nat.reduceEqDiff]; done) | (simp only [zfa, ↓reduceIte, Nat.reduceEqDiff]; rfl)) rfl
    have b9 : (k == 9) = false := beq_eq_false_iff_ne.mpr h9
    by_cases h7 : k = 7
    · subst h7
      have hr : sameT (.mk 7 n1 lg l s i1 kg ks) (.mk 7 n2 lg' l' s' i2 kg' ks') = (decide (i1 = i2) && sameK ks ks') := by first | (simp [sameT, kindT, sgnT, limT, strT, nT, kidsT]; done) | (simp [sameT, kindT, sgnT, limT, strT, nT, kidsT]; rfl)
      by_cases g : i1 = i2
      · have g' : (i1 == i2) = true := beq_iff_eq.mpr g
        rw [hr, decide_eq_true g, Bool.true_and]
        simp only [zaa, zab, zac, zad, zae, zaf, zag, zah, zai, zaj, zak, zal, zam, zan, zao, zap, zaq, zar, zas, zat, zau, zav, zaw, zax, zay, zaz, zba, zbb, zbc, zbd, zbe, zbf, zbg, zbh, zbi, zbj, Nat.reduceBEq, Bool.or_self, Bool.or_false, Bool.or_true, Bool.and_true, Bool.and_false, Bool.true_and, Bool.false_and, Option.isNone_none, Option.isNone_some, Option.isSome_some, Option.isSome_none, zbk, zbl, zbm, zbn, zbo, zbp, zbq, zbr, zbs, zbt, zbu, zbv, zbw, zbx, zby, zbz, zca, zcb, zcc, zcd, zce, zcf, zcg, zch, zci, zcj, zck, zcl, zcm, zcn, zco, zcp, zcq, zcr, zcs, zct, zcu, zcv, zcw, zcx, zcy, zcz, zda, zdb, zdc, zdd, zde, zdf, Option.getD_some, Option.getD_none, zet, zeu, zev, zew, zex, zey, zez, zfa, Option.map_some, Option.map_none, Option.bind_some, List.map_cons, List.map_nil, List.cons_append, List.nil_append, ↓reduceIte, Nat.reduceEqDiff, Nat.reduceAdd, decide_true, decide_false, Bool.true_eq_false, Bool.false_eq_true, env0, List.getElem?_cons_zero, List.getElem?_cons_succ, zdg, zdh, zdi, zdj, zdk, zdl, zdm, zdn, ia22, ld31, zdo, zdp, zdq, zdr, zds, zdt, zdu, zdv, zdw, zdx, zdy, zdz, zea, zeb, zec, fa_0, fa_1, zed, bd_0, bd_2, zee, fd_1, zef, Nat.zero_add, encT, cellsT, faT_0, faT_1, faT_2, faT_3, faT_4, faN_0, faN_1, ldT_0, ldT_2, ldT_3, ldT_4, ldB_1, ldB_2, Nat.reduceAdd, p1, i_eqlV, Int.reduceBEq, eb, g', c2]
        exact finish_b _ _ _ _ _ _ _ (by first | (simp only [zfa, ↓reduceIte, Nat.reduceEqDiff]; done) | (simp only [zfa, ↓reduceIte, Nat.reduceEqDiff]; rfl)) rfl
      · have g' : (i1 == i2) = false := beq_eq_false_iff_ne.mpr g
        rw [hr, decide_eq_false g, Bool.false_and]
        simp only [zaa, zab, zac, zad, zae, zaf, zag, zah, zai, zaj, zak, zal, zam, zan, zao, zap, zaq, zar, zas, zat, zau, zav, zaw, zax, zay, zaz, zba, zbb, zbc, zbd, zbe, zbf, zbg, zbh, zbi, zbj, Nat.reduceBEq, Bool.or_self, Bool.or_false, Bool.or_true, Bool.and_true, Bool.and_false, Bool.true_and, Bool.false_and, Option.isNone_none, Option.isNone_some, Option.isSome_some, Option.isSome_none, zbk, zbl, zbm, zbn, zbo, zbp, zbq, zbr, zbs, zbt, zbu, zbv, zbw, zbx, zby, zbz, zca, zcb, zcc, zcd, zce, zcf, zcg, zch, zci, zcj, zck, zcl, zcm, zcn, zco, zcp, zcq, zcr, zcs, zct, zcu, zcv, zcw, zcx, zcy, zcz, zda, zdb, zdc, zdd, zde, zdf, Option.getD_some, Option.getD_none, zet, zeu, zev, zew, zex, zey, zez, zfa, Option.map_some, Option.map_none, Option.bind_some, List.map_cons, List.map_nil, List.cons_append, List.nil_append, ↓reduceIte, Nat.reduceEqDiff, Nat.reduceAdd, decide_true, decide_false, Bool.true_eq_false, Bool.false_eq_true, env0, List.getElem?_cons_zero, List.getElem?_cons_succ, zdg, zdh, zdi, zdj, zdk, zdl, zdm, zdn, ia22, ld31, zdo, zdp, zdq, zdr, zds, zdt, zdu, zdv, zdw, zdx, zdy, zdz, zea, zeb, zec, fa_0, fa_1, zed, bd_0, bd_2, zee, fd_1, zef, Nat.zero_add, encT, cellsT, faT_0, faT_1, faT_2, faT_3, faT_4, faN_0, faN_1, ldT_0, ldT_2, ldT_3, ldT_4, ldB_1, ldB_2, Nat.reduceAdd, p1, i_eqlV, Int.reduceBEq, eb, g', c2]
        exact finish_b _ _ _ _ _ _ _ (by first | (simp only [zfa, ↓reduceIte, Nat.reduceEqDiff]; done) | (simp only [zfa, ↓reduceIte, Nat.reduceEqDiff]; rfl)) rfl
    have b7 : (k == 7) = false := beq_eq_false_iff_ne.mpr h7
    by_cases h5 : k = 5
    · subst h5
      have hr : sameT (.mk 5 n1 lg l s i1 kg ks) (.mk 5 n2 lg' l' s' i2 kg' ks') = sameK ks ks' := by first | (simp [sameT, kindT, sgnT, limT, strT, nT, kidsT]; done) | (simp [sameT, kindT, sgnT, limT, strT, nT, kidsT]; rfl)
      rw [hr]
      simp only [zaa, zab, zac, zad, zae, zaf, zag, zah, zai, zaj, zak, zal, zam, zan, zao, zap, zaq, zar, zas, zat, zau, zav, zaw, zax, zay, zaz, zba, zbb, zbc, zbd, zbe, zbf, zbg, zbh, zbi, zbj, Nat.reduceBEq, Bool.or_self, Bool.or_false, Bool.or_true, Bool.and_true, Bool.and_false, Bool.true_and, Bool.false_and, Option.isNone_none, Option.isNone_some, Option.isSome_some, Option.isSome_none, zbk, zbl, zbm, zbn, zbo, zbp, zbq, zbr, zbs, zbt, zbu, zbv, zbw, zbx, zby, zbz, zca, zcb, zcc, zcd, zce, zcf, zcg, zch, zci, zcj, zck, zcl, zcm, zcn, zco, zcp, zcq, zcr, zcs, zct, zcu, zcv, zcw, zcx, zcy, zcz, zda, zdb, zdc, zdd, zde, zdf, Option.getD_some, Option.getD_none, zet, zeu, zev, zew, zex, zey, zez, zfa, Option.map_some, Option.map_none, Option.bind_some, List.map_cons, List.map_nil, List.cons_append, List.nil_append, ↓reduceIte, Nat.reduceEqDiff, Nat.reduceAdd, decide_true, decide_false, Bool.true_eq_false, Bool.false_eq_true, env0, List.getElem?_cons_zero, List.getElem?_cons_succ, zdg, zdh, zdi, zdj, zdk, zdl, zdm, zdn, ia22, ld31, zdo, zdp, zdq, zdr, zds, zdt, zdu, zdv, zdw, zdx, zdy, zdz, zea, zeb, zec, fa_0, fa_1, zed, bd_0, bd_2, zee, fd_1, zef, Nat.zero_add, encT, cellsT, faT_0, faT_1, faT_2, faT_3, faT_4, faN_0, faN_1, ldT_0, ldT_2, ldT_3, ldT_4, ldB_1, ldB_2, Nat.reduceAdd, p1, i_eqlV, Int.reduceBEq, c2]
      exact finish_b _ _ _ _ _ _ _ (by first | (simp only [zfa, ↓reduceIte, Nat.reduceEqDiff]; done) | (simp only [zfa, ↓reduceIte, Nat.reduceEqDiff]; rfl)) rfl
    have b5 : (k == 5) = false := beq_eq_false_iff_ne.mpr h5
    by_cases h4 : k = 4
    · subst h4
      have hr : sameT (.mk 4 n1 lg l s i1 kg ks) (.mk 4 n2 lg' l' s' i2 kg' ks') = sameK ks ks' := by first | (simp [sameT, kindT, sgnT, limT, strT, nT, kidsT]; done) | (simp [sameT, kindT, sgnT, limT, strT, nT, kidsT]; rfl)
      rw [hr]
      simp only [zaa, zab, zac, zad, zae, zaf, zag, zah, zai, zaj, zak, zal, zam, zan, zao, zap, zaq, zar, zas, zat, zau, zav, zaw, zax, zay, zaz, zba, zbb, zbc, zbd, zbe, zbf, zbg, zbh, zbi, zbj, Nat.reduceBEq, Bool.or_self, Bool.or_false, Bool.or_true, Bool.and_true, Bool.and_false, Bool.true_and, Bool.false_and, Option.isNone_none, Option.isNone_some, Option.isSome_some, Option.isSome_none, zbk, zbl, zbm, zbn, zbo, zbp, zbq, zbr, zbs, zbt, zbu, zbv, zbw, zbx, zby, zbz, zca, zcb, zcc, zcd, zce, zcf, zcg, zch, zci, zcj, zck, zcl, zcm, zcn, zco, zcp, zcq, zcr, zcs, zct, zcu, zcv, zcw, zcx, zcy, zcz, zda, zdb, zdc, zdd, zde, zdf, Option.getD_some, Option.getD_none, zet, zeu, zev, zew, zex, zey, zez, zfa, Option.map_some, Option.map_none, Option.bind_some, List.map_cons, List.map_nil, List.cons_append, List.nil_append, ↓reduceIte, Nat.reduceEqDiff, Nat.reduceAdd, decide_true, decide_false, Bool.true_eq_false, Bool.false_eq_true, env0, List.getElem?_cons_zero, List.getElem?_cons_succ, zdg, zdh, zdi, zdj, zdk, zdl, zdm, zdn, ia22, ld31, zdo, zdp, zdq, zdr, zds, zdt, zdu, zdv, zdw, zdx, zdy, zdz, zea, zeb, zec, fa_0, fa_1, zed, bd_0, bd_2, zee, fd_1, zef, Nat.zero_add, encT, cellsT, faT_0, faT_1, faT_2, faT_3, faT_4, faN_0, faN_1, ldT_0, ldT_2, ldT_3, ldT_4, ldB_1, ldB_2, Nat.reduceAdd, p1, i_eqlV, Int.reduceBEq, c2]
      exact finish_b _ _ _ _ _ _ _ (by first | (simp only [zfa, ↓reduceIte, Nat.reduceEqDiff]; done) | (simp only [zfa, ↓reduceIte, Nat.reduceEqDiff]; rfl)) rfl
    have b4 : (k == 4) = false := beq_eq_false_iff_ne.mpr h4
    have hr : sameT (.mk k n1 lg l s i1 kg ks) (.mk k n2 lg' l' s' i2 kg' ks') = true := by first | (simp [sameT, kindT, sgnT, limT, strT, nT, kidsT, h1, h2, h4, h5, h6, h7, h8, h9]; done) | (simp [sameT, kindT, sgnT, limT, strT, nT, kidsT, h1, h2, h4, h5, h6, h7, h8, h9]; rfl)
    rw [hr]
    simp only [zaa, zab, zac, zad, zae, zaf, zag, zah, zai, zaj, zak, zal, zam, zan, zao, zap, zaq, zar, zas, zat, zau, zav, zaw, zax, zay, zaz, zba, zbb, zbc, zbd, zbe, zbf, zbg, zbh, zbi, zbj, Nat.reduceBEq, Bool.or_self, Bool.or_false, Bool.or_true, Bool.and_true, Bool.and_false, Bool.true_and, Bool.false_and, Option.isNone_none, Option.isNone_some, Option.isSome_some, Option.isSome_none, zbk, zbl, zbm, zbn, zbo, zbp, zbq, zbr, zbs, zbt, zbu, zbv, zbw, zbx, zby, zbz, zca, zcb, zcc, zcd, zce, zcf, zcg, zch, zci, zcj, zck, zcl, zcm, zcn, zco, zcp, zcq, zcr, zcs, zct, zcu, zcv, zcw, zcx, zcy, zcz, zda, zdb, zdc, zdd, zde, zdf, Option.getD_some, Option.getD_none, zet, zeu, zev, zew, zex, zey, zez, zfa, Option.map_some, Option.map_none, Option.bind_some, List.map_cons, List.map_nil, List.cons_append, List.nil_append, ↓reduceIte, Nat.reduceEqDiff, Nat.reduceAdd, decide_true, decide_false, Bool.true_eq_false, Bool.false_eq_true, env0, List.getElem?_cons_zero, List.getElem?_cons_succ, zdg, zdh, zdi, zdj, zdk, zdl, zdm, zdn, ia22, ld31, zdo, zdp, zdq, zdr, zds, zdt, zdu, zdv, zdw, zdx, zdy, zdz, zea, zeb, zec, fa_0, fa_1, zed, bd_0, bd_2, zee, fd_1, zef, Nat.zero_add, encT, cellsT, faT_0, ldT_0, p1, i_eqlV, b1, b2, b4, b5, b6, b7, b8, b9]
    exact finish_b _ _ _ _ _ _ _ (by first | (simp only [zfa, ↓reduceIte, Nat.reduceEqDiff]; done) | (simp only [zfa, ↓reduceIte, Nat.reduceEqDiff]; rfl)) rfl
end Go.Ab

/- The document's own check of a term by itself. Conditions: limbs in range; a text shorter than the rounds. -/
namespace Go.Ab
open Go.Proofs
set_option maxRecDepth 100000
set_option linter.unusedSimpArgs false

def badT (m k : Int) (b : Bool) (l : List Nat) (s : List UInt8) : Bool := (m != 0) || ((k != 1) && !zeroB b l) || ((k != 2) && (k != 6) && !(s == []))
def ownS (k : Int) (b : Bool) (l : List Nat) (s : List UInt8) (c : Nat) : Bool :=
  if k = 1 then chkN b l && decide (c = 0) else if k = 2 then s.all okC && (decide (1 ≤ s.length) && decide (s.length ≤ 40) && decide (c = 0)) else if k = 3 then decide (c = 0) else if k = 4 then decide (c = 2) else if k = 5 then decide (c ≤ 40)
  else if k = 6 then decide (s.length ≤ 400) && decide (c = 0) else false
theorem own_split (k : Int) (b : Bool) (lg : Gk) (l : List Nat) (s : List UInt8) (m : Int) (kg : Gk) (ks : List T) :
    ownT (.mk k b lg l s m kg ks) = (!badT m k b l s && ownS k b l s ks.length) := by
  unfold badT ownS
  simp only [ownT]
  by_cases h1 : k = 1
  · subst h1; cases hs : s == [] <;> cases hc : chkN b l <;> by_cases hm : m = 0 <;> simp [hm, hs]
  by_cases h2 : k = 2
  · subst h2
    unfold nameB
    cases hz : zeroB b l <;> by_cases hm : m = 0 <;> simp [hm] <;> cases s.all okC <;> simp
  by_cases h3 : k = 3
  · subst h3; cases hz : zeroB b l <;> cases hs : s == [] <;> by_cases hm : m = 0 <;> simp [hm, hs]
  by_cases h4 : k = 4
  · subst h4; cases hz : zeroB b l <;> cases hs : s == [] <;> by_cases hm : m = 0 <;> simp [hm, hs]
  by_cases h5 : k = 5
  · subst h5; cases hz : zeroB b l <;> cases hs : s == [] <;> by_cases hm : m = 0 <;> simp [hm, hs]
  by_cases h6 : k = 6
  · subst h6; cases hz : zeroB b l <;> by_cases hm : m = 0 <;> simp [hm]
  have hk : ¬ (1 ≤ k ∧ k ≤ 6) := by omega
  simp only [decide_eq_false hk, Bool.false_and, h1, h2, h3, h4, h5, h6, ↓reduceIte, Bool.and_false]
theorem i_neqV (x y : Int) : binA Tryd.prog .neq 3 (.int .i64 x) (.int .i64 y) = some (.bool (x != y)) := rfl
end Go.Ab

/- What the abstract run gives, it gives with more rounds and more depth too. No conditions. -/
namespace Go.Ab
section
variable {P : Program} {cfg : Cfg} {call call' : FuncId → List Arg → Option Out}
def Less (call call' : FuncId → List Arg → Option Out) : Prop := ∀ f as1 r, call f as1 = some r → call' f as1 = some r
theorem callA_mono (h : Less call call') {d : Nat} {s : St} {f : FuncId} {vs : List AV} {r : AV × St} (hc : callA cfg call d s f vs = some r) : callA cfg call' d s f vs = some r := by
  unfold callA at hc ⊢
  cases ha : argsA cfg f s 0 vs with
  | none => rw [ha] at hc; cases hc
  | some as1 =>
    rw [ha] at hc
    simp only [Option.bind_some] at hc ⊢
    split at hc
    · rename_i hg
      rw [if_pos hg]
      cases hcc : call f as1 with
      | none => rw [hcc] at hc; cases hc
      | some o => rw [hcc] at hc; rw [h _ _ _ hcc]; exact hc
    · cases hc
theorem callQ_mono (h : Less call call') {f : FuncId} {vs : List AV} {r : AV} (hc : callQ call f vs = some r) : callQ call' f vs = some r := by
  unfold callQ at hc ⊢
  split at hc
  · rename_i hg
    rw [if_pos hg]
    cases hcc : call f (vs.map .tree) with
    | none => rw [hcc] at hc; cases hc
    | some o => rw [hcc] at hc; rw [h _ _ _ hcc]; exact hc
  · rename_i hg
    rw [if_neg hg]
    split at hc
    · rename_i hg2
      rw [if_pos hg2]
      cases hcc : call f (vs.map fun v => .tree (loosen v)) with
      | none => rw [hcc] at hc; cases hc
      | some o => rw [hcc] at hc; rw [h _ _ _ hcc]; exact hc
    · cases hc
theorem opA_mono (h : Less call call') {q : Bool} {o : Oper} {d : Nat} {env : Env} {s : St} {r : AV × St} (hc : opA P cfg call q o d env s = some r) : opA P cfg call' q o d env s = some r := by
  obtain ⟨dst, op, ty, pos, af, g⟩ := o
  cases op with
  | call c =>
    obtain ⟨ce, as1, us⟩ := c
    cases ce with
    | value f =>
      simp only [opA] at hc ⊢
      split at hc
      · split at hc
        · rename_i hq
          rw [if_pos hq]
          split at hc
          · rename_i h1
            rw [if_pos h1]
            split at hc
            · rename_i h2
              rw [if_pos h2]
              exact callA_mono h hc
            · cases hc
          · rename_i h1
            rw [if_neg h1]
            obtain ⟨v, hcc, hv⟩ := Option.map_eq_some_iff.mp hc
            rw [callQ_mono h hcc]
            exact congrArg some hv
        · rename_i hq
          rw [if_neg hq]
          exact callA_mono h hc
      · cases hc
    | builtin b => cases b <;> exact hc
    | _ => exact hc
  | _ => exact hc
theorem opsA_mono (h : Less call call') {q : Bool} {ops : Array Oper} : ∀ (l : List Oper) {env : Env} {s : St} {r : Env × St}, opsA P cfg call q ops l env s = some r → opsA P cfg call' q ops l env s = some r
  | [], env, s, r, hc => hc
  | o :: l, env, s, r, hc => by
    simp only [opsA] at hc ⊢
    cases hw : wantA ops o env with
    | none => rw [hw] at hc; cases hc
    | some b =>
      rw [hw] at hc
      cases b with
      | false => exact opsA_mono h l hc
      | true =>
        simp only at hc ⊢
        cases ho : opA P cfg call q o (o.dst.getD 0) env s with
        | none => rw [ho] at hc; cases hc
        | some x =>
          rw [ho] at hc
          rw [opA_mono h ho]
          simp only [Option.bind_some] at hc ⊢
          exact opsA_mono h l hc
def LessK (K K' : Kont) : Prop := ∀ e env s r, K e env s = some r → K' e env s = some r
theorem loopA_mono {b b' : Kont → Env → St → Option Out} (hb : ∀ K K', LessK K K' → ∀ env s r, b K env s = some r → b' K' env s = some r) {K K' : Kont} (hK : LessK K K') :
    ∀ (n n' : Nat), n ≤ n' → ∀ env s r, loopA b K n env s = some r → loopA b' K' n' env s = some r
  | 0, n', _, env, s, r, hc => by cases hc
  | n + 1, n', hn, env, s, r, hc => by
    obtain ⟨m, rfl⟩ : ∃ m, n' = m + 1 := ⟨n' - 1, by omega⟩
    simp only [loopA] at hc ⊢
    refine hb _ _ (fun e env s r h => ?_) _ _ _ hc
    cases e with
    | normal => exact loopA_mono hb hK n m (by omega) _ _ _ h
    | exit i => exact hK _ _ _ _ h
    | ret => exact hK _ _ _ _ h
theorem den_mono (h : Less call call') {n n' : Nat} (hn : n ≤ n') : ∀ (c : Code) {K K' : Kont}, LessK K K' → ∀ {env : Env} {s : St} {r : Out}, den P cfg call n c K env s = some r → den P cfg call' n' c K' env s = some r
  | .skip, K, K', hK, env, s, r, hc => hK _ _ _ _ hc
  | .label _, K, K', hK, env, s, r, hc => hK _ _ _ _ hc
  | .region _ ops draw, K, K', hK, env, s, r, hc => by
    simp only [den] at hc ⊢
    cases ho : opsA P cfg call draw ops ops.toList env (killI cfg.keep draw ops.toList s) with
    | none => rw [ho] at hc; cases hc
    | some x =>
      rw [ho] at hc
      rw [opsA_mono h _ ho]
      exact hK _ _ _ _ hc
  | .seq a b, K, K', hK, env, s, r, hc => by
    simp only [den] at hc ⊢
    refine den_mono h hn a (fun e env s r hh => ?_) hc
    cases e with
    | normal => exact den_mono h hn b hK hh
    | exit i => exact hK _ _ _ _ hh
    | ret => exact hK _ _ _ _ hh
  | .cond c a b, K, K', hK, env, s, r, hc => by
    simp only [den] at hc ⊢
    cases hv : ev env c <;> rw [hv] at hc <;> try cases hc
    rename_i x
    cases x with
    | true => exact den_mono h hn a hK hc
    | false => exact den_mono h hn b hK hc
  | .scope a, K, K', hK, env, s, r, hc => by
    simp only [den] at hc ⊢
    exact den_mono h hn a hK hc
  | .block id a, K, K', hK, env, s, r, hc => by
    simp only [den] at hc ⊢
    refine den_mono h hn a (fun e env s r hh => ?_) hc
    cases e with
    | normal => exact hK _ _ _ _ hh
    | exit i =>
      simp only at hh ⊢
      split at hh
      · rename_i hi; rw [if_pos hi]; exact hK _ _ _ _ hh
      · rename_i hi; rw [if_neg hi]; exact hK _ _ _ _ hh
    | ret => exact hK _ _ _ _ hh
  | .loop a, K, K', hK, env, s, r, hc => by
    simp only [den] at hc ⊢
    exact loopA_mono (b := den P cfg call n a) (b' := den P cfg call' n' a) (fun K K' hK env s r hh => den_mono h hn a hK hh) hK n n' hn _ _ _ hc
  | .exit id, K, K', hK, env, s, r, hc => hK _ _ _ _ hc
  | .ret, K, K', hK, env, s, r, hc => hK _ _ _ _ hc
  | .rangeFunc .., K, K', hK, env, s, r, hc => by cases hc
  | .goto _, K, K', hK, env, s, r, hc => by cases hc
  | .refuse _, K, K', hK, env, s, r, hc => by cases hc
theorem evalFn_mono {n n' : Nat} (hn : n ≤ n') : ∀ (d d' : Nat), d ≤ d' → Less (evalFn P cfg n d) (evalFn P cfg n' d')
  | 0, _, _, f, as1, r, hc => by cases hc
  | d + 1, d', hd, f, as1, r, hc => by
    obtain ⟨m, rfl⟩ : ∃ m, d' = m + 1 := ⟨d' - 1, by omega⟩
    simp only [evalFn] at hc ⊢
    cases hp : cfg.prim f as1 with
    | some o => rw [hp] at hc; exact hc
    | none =>
      rw [hp] at hc
      simp only at hc ⊢
      cases hf : P.funcs[f]? with
      | none => rw [hf] at hc; cases hc
      | some fn =>
        rw [hf] at hc
        simp only at hc ⊢
        cases hb : fn.body with
        | none => rw [hb] at hc; cases hc
        | some c =>
          rw [hb] at hc
          simp only at hc ⊢
          split at hc
          · rename_i hg
            rw [if_pos hg]
            exact den_mono (evalFn_mono hn d m (by omega)) hn _ (fun _ _ _ _ hh => hh) hc
          · cases hc
end
end Go.Ab

/- The document's own check of terms, walked. Conditions: limbs in range; texts shorter than the rounds. -/
namespace Go.Ab
open Go.Proofs
set_option maxRecDepth 100000
set_option linter.unusedSimpArgs false

mutual
/-- Limbs in range, texts not too long, everywhere. -/
def bigT (R : Nat) : T → Prop
  | .mk _ _ _ l s _ _ ks => Limbs l ∧ s.length < R ∧ bigK R ks
def bigK (R : Nat) : List T → Prop
  | [] => True
  | t :: r => bigT R t ∧ bigK R r
end
theorem bigK_at (R : Nat) : ∀ (ks : List T) (i : Nat) (t : T) (r : List T), ks.drop i = t :: r → bigK R ks → bigT R t
  | [], i, t, r, h, _ => by simp at h
  | a :: q, 0, t, r, h, hw => by simp only [List.drop_zero, List.cons.injEq] at h; obtain ⟨rfl, rfl⟩ := h; simp only [bigK] at hw; exact hw.1
  | a :: q, i + 1, t, r, h, hw => by simp only [bigK] at hw; exact bigK_at R q i t r (by simpa using h) hw.2
mutual
def rwT : T → Int → Int → Int
  | .mk k b lg l s m kg ks, deep, n => if n + 1 > 2000 ∨ deep > 60 ∨ ownT (.mk k b lg l s m kg ks) = false then -1 else rwK k ks 0 deep (n + 1)
def rwK (k : Int) : List T → Nat → Int → Int → Int
  | [], _, _, n => n
  | t :: r, i, deep, n => if rwT t (if k = 4 ∧ i = 1 then deep else deep + 1) n < 0 then -1 else rwK k r (i + 1) deep (rwT t (if k = 4 ∧ i = 1 then deep else deep + 1) n)
end
mutual
theorem rwT_good (R : Nat) : ∀ (t : T) (deep n : Int), bigT R t → 0 ≤ n → 0 ≤ rwT t deep n → goodT t ∧ rwT t deep n = n + nodT t ∧ rwT t deep n ≤ 2000
  | .mk k b lg l s m kg ks, deep, n, hb, hn, h => by
    simp only [rwT, nodT] at h ⊢
    split at h
    · omega
    · rename_i hg
      have ho : ownT (.mk k b lg l s m kg ks) = true := by
        cases h0 : ownT (.mk k b lg l s m kg ks)
        · exact absurd (.inr (.inr h0)) hg
        · rfl
      simp only [hg, ↓reduceIte]
      simp only [bigT] at hb
      have := rwK_good R k ks 0 deep (n + 1) hb.2.2 (by omega) (by omega) h
      simp only [goodT]
      exact ⟨⟨hb.1, ho, this.1⟩, by omega, this.2.2⟩
theorem rwK_good (R : Nat) (k : Int) : ∀ (ks : List T) (i : Nat) (deep n : Int), bigK R ks → 0 ≤ n → n ≤ 2000 → 0 ≤ rwK k ks i deep n → goodK ks ∧ rwK k ks i deep n = n + nodK ks ∧ rwK k ks i deep n ≤ 2000
  | [], i, deep, n, _, hn, hn2, h => by simp only [rwK, goodK, nodK] at h ⊢; exact ⟨trivial, by omega, hn2⟩
  | t :: r, i, deep, n, hb, hn, hn2, h => by
    simp only [rwK, goodK, nodK, bigK] at h hb ⊢
    generalize (if k = 4 ∧ i = 1 then deep else deep + 1) = dd at h ⊢
    split at h
    · omega
    · rename_i hg
      have a := rwT_good R t dd n hb.1 hn (by omega)
      have b := rwK_good R k r (i + 1) deep _ hb.2 (by omega) (by omega) h
      simp only [hg, ↓reduceIte]
      exact ⟨⟨a.1, b.1⟩, by omega, b.2.2⟩
end
theorem callA_tii {cfg : Cfg} {call : FuncId → List Arg → Option Out} {D : Nat} {f : FuncId} {ys : List AV} {x z : Int} {r : AV} (hc : call f [.tree (.agg ys), .tree (.int .i64 x), .tree (.int .i64 z)] = some (.tree r, [[], [], []])) (s : St) :
    callA cfg call D s f [.agg ys, .int .i64 x, .int .i64 z] = some (r, s) := callA_trees (vs := [.agg ys, .int .i64 x, .int .i64 z]) rfl hc
end Go.Ab

/- Terms in their order: mathematics. Conditions: terms that may be. -/
namespace Go.Ab
open Go.Proofs
set_option maxRecDepth 100000
set_option linter.unusedSimpArgs false

def Tr (x y z : Int) : Prop := (x ≤ 0 → y ≤ 0 → z ≤ 0) ∧ (x < 0 → y ≤ 0 → z < 0) ∧ (x ≤ 0 → y < 0 → z < 0) ∧ (x = 0 → y = 0 → z = 0)
theorem or2_neg {p q p' q' : Int} (h : p' = -p) (h' : p = 0 → q' = -q) : or2 p' q' = - or2 p q := by
  unfold or2
  by_cases e : p = 0
  · rw [if_pos e, if_pos (by omega)]; exact h' e
  · rw [if_neg e, if_neg (by omega)]; exact h
theorem or2_zero {p q : Int} : or2 p q = 0 ↔ p = 0 ∧ q = 0 := by
  unfold or2
  by_cases e : p = 0
  · rw [if_pos e]; exact ⟨fun h => ⟨e, h⟩, fun h => h.2⟩
  · rw [if_neg e]; exact ⟨fun h => absurd h e, fun h => absurd h.1 e⟩
theorem Tr.or2 {p1 p2 p3 q1 q2 q3 : Int} (h : Tr p1 p2 p3) (h' : p1 = 0 → p2 = 0 → Tr q1 q2 q3) : Tr (or2 p1 q1) (or2 p2 q2) (or2 p3 q3) := by
  unfold Go.Ab.or2
  by_cases e1 : p1 = 0
  · by_cases e2 : p2 = 0
    · have e3 := h.2.2.2 e1 e2
      rw [if_pos e1, if_pos e2, if_pos e3]
      exact h' e1 e2
    · rw [if_pos e1, if_neg e2]
      by_cases e3 : p3 = 0
      · rw [if_pos e3]
        unfold Tr at *
        omega
      · rw [if_neg e3]
        unfold Tr at *
        omega
  · rw [if_neg e1]
    by_cases e2 : p2 = 0
    · rw [if_pos e2]
      by_cases e3 : p3 = 0
      · rw [if_pos e3]
        unfold Tr at *
        omega
      · rw [if_neg e3]
        unfold Tr at *
        omega
    · rw [if_neg e2]
      by_cases e3 : p3 = 0
      · rw [if_pos e3]
        unfold Tr at *
        omega
      · rw [if_neg e3]
        unfold Tr at *
        omega
theorem three_neg (a b : Int) : three b a = - three a b := by unfold three; split <;> split <;> omega
theorem three_is (a b : Int) : (a < b ∧ three a b = -1) ∨ (a = b ∧ three a b = 0) ∨ (b < a ∧ three a b = 1) := by unfold three; split <;> (try split) <;> omega
theorem three_Tr (a b c : Int) : Tr (three a b) (three b c) (three a c) := by
  have h1 := three_is a b
  have h2 := three_is b c
  have h3 := three_is a c
  unfold Tr
  omega
theorem three_zero (a b : Int) : three a b = 0 ↔ a = b := by unfold three; split <;> (try split) <;> omega
theorem cmpI_three (a b : Int) : cmpI a b = three a b := rfl
theorem bl_cons (a b : UInt8) (x y : List UInt8) : Op.bytesLess (a :: x) (b :: y) = (decide (a < b) || a == b && Op.bytesLess x y) := by rw [Op.bytesLess]
theorem strC_cons (a b : UInt8) (x y : List UInt8) : strC (a :: x) (b :: y) = or2 (three a.toNat b.toNat) (strC x y) := by
  unfold strC
  rw [bl_cons]
  by_cases h : a < b
  · have h' : (a.toNat : Int) < b.toNat := by have := UInt8.lt_iff_toNat_lt.mp h; omega
    have e : three a.toNat b.toNat = -1 := if_pos h'
    rw [e, if_pos (by simp [h])]; rfl
  · by_cases g : b < a
    · have g' : (b.toNat : Int) < a.toNat := by have := UInt8.lt_iff_toNat_lt.mp g; omega
      have e : three a.toNat b.toNat = 1 := by unfold three; rw [if_neg (by omega), if_pos g']
      have hab : a ≠ b := by intro e; subst e; exact absurd g h
      have hab' : (a == b) = false := beq_eq_false_iff_ne.mpr hab
      rw [e, if_neg (by simp [h, hab']), if_neg (by intro hh; injection hh with h1 h2; exact hab h1)]; rfl
    · have hab : a = b := by
        have h1 : ¬ a.toNat < b.toNat := fun hh => h (UInt8.lt_iff_toNat_lt.mpr hh)
        have h2 : ¬ b.toNat < a.toNat := fun hh => g (UInt8.lt_iff_toNat_lt.mpr hh)
        exact UInt8.toNat_inj.mp (by omega)
      subst hab
      have e : three a.toNat a.toNat = 0 := (three_zero _ _).mpr rfl
      rw [e]
      have hb : (decide (a < a) || (a == a) && Op.bytesLess x y) = Op.bytesLess x y := by simp [h]
      rw [or2_0 rfl]
      by_cases hx : Op.bytesLess x y = true
      · rw [if_pos (by simp [hx]), if_pos hx]
      · rw [if_neg (by simp [h]; simpa using hx), if_neg hx]
        by_cases hxy : x = y
        · rw [if_pos (by rw [hxy]), if_pos hxy]
        · rw [if_neg (by intro hh; injection hh with h1 h2; exact hxy h2), if_neg hxy]
theorem strC_nil : strC [] [] = 0 := rfl
theorem strC_nc (a : UInt8) (x : List UInt8) : strC [] (a :: x) = -1 := rfl
theorem strC_cn (a : UInt8) (x : List UInt8) : strC (a :: x) [] = 1 := by
  unfold strC Op.bytesLess
  rw [if_neg (by simp), if_neg (by simp)]
theorem strC_neg : ∀ x y : List UInt8, strC y x = - strC x y
  | [], [] => rfl
  | [], a :: x => by rw [strC_nc, strC_cn]; rfl
  | a :: x, [] => by rw [strC_nc, strC_cn]
  | a :: x, b :: y => by
    rw [strC_cons, strC_cons]
    exact or2_neg (three_neg _ _) (fun _ => strC_neg x y)
theorem strC_zero (x y : List UInt8) : strC x y = 0 ↔ x = y := by
  constructor
  · unfold strC
    split
    · intro h; omega
    · split
      · intro _; assumption
      · intro h; omega
  · intro h; subst h
    have := strC_neg x x
    omega
theorem strC_Tr : ∀ x y z : List UInt8, Tr (strC x y) (strC y z) (strC x z)
  | [], [], z => by rw [strC_nil]; unfold Tr; omega
  | [], b :: y, [] => by rw [strC_nc, strC_cn, strC_nil]; unfold Tr; omega
  | [], b :: y, c :: z => by rw [strC_nc, strC_nc]; unfold Tr; omega
  | a :: x, [], [] => by rw [strC_cn, strC_nil]; unfold Tr; omega
  | a :: x, [], c :: z => by rw [strC_cn, strC_nc]; unfold Tr; omega
  | a :: x, b :: y, [] => by rw [strC_cn, strC_cn]; unfold Tr; omega
  | a :: x, b :: y, c :: z => by
    rw [strC_cons, strC_cons, strC_cons]
    exact (three_Tr _ _ _).or2 fun _ _ => strC_Tr x y z
/-- What is left to be compared, of one kind. -/
def restC (k : Int) (a b : T) : Int :=
  if k = 1 then cmpI (numT a) (numT b) else if k = 2 ∨ k = 6 then strC (strT a) (strT b) else if k = 5 then or2 (three (kidsT a).length (kidsT b).length) (cmpL (kidsT a) (kidsT b)) else 0
theorem cmp_4 (n1 : Bool) (lg : Gk) (l : List Nat) (s : List UInt8) (i1 : Int) (kg : Gk) (x y : T) (n2 : Bool) (lg' : Gk) (l' : List Nat) (s' : List UInt8) (i2 : Int) (kg' : Gk) (x' y' : T) :
    cmpT (.mk 4 n1 lg l s i1 kg [x, y]) (.mk 4 n2 lg' l' s' i2 kg' [x', y']) = or2 (cmpT x x') (cmpT y y') := by
  simp only [cmpT, kindT, kidsT, and_self, ↓reduceIte, cmpC, cmpD, List.headD_cons, List.tail_cons]
theorem cmp_k (a b : T) (h : ¬ (kindT a = 4 ∧ kindT b = 4)) : cmpT a b = or2 (three (rankI (kindT a)) (rankI (kindT b))) (restC (kindT a) a b) := by
  obtain ⟨k, n1, lg, l, s, i1, kg, ks⟩ := a
  obtain ⟨k', n2, lg', l', s', i2, kg', ks'⟩ := b
  simp only [kindT] at h
  first
    | (simp only [cmpT, kindT, h, ↓reduceIte, restC, numT, strT, kidsT]; done)
    | (simp only [cmpT, kindT, h, ↓reduceIte, restC, numT, strT, kidsT]; rfl)
theorem good_4 {t : T} (h : goodT t) (hk : kindT t = 4) : ∃ x y, (∃ n1 lg l s i1 kg, t = .mk 4 n1 lg l s i1 kg [x, y]) ∧ goodT x ∧ goodT y ∧ nodT t = nodT x + nodT y + 1 := by
  obtain ⟨k, n1, lg, l, s, i1, kg, ks⟩ := t
  simp only [kindT] at hk
  subst hk
  obtain ⟨x, y, rfl⟩ := own_kids (good_own h).2.1 rfl
  have := (good_own h).2.2
  simp only [goodK, and_true] at this
  exact ⟨x, y, ⟨_, _, _, _, _, _, rfl⟩, this.1, this.2, by simp only [nodT, nodK]; omega⟩
theorem cmpL_neg : ∀ us vs : List T, (∀ x ∈ us, ∀ y ∈ vs, cmpT y x = - cmpT x y) → cmpL vs us = - cmpL us vs
  | [], [], _ => by simp only [cmpL]; rfl
  | [], _ :: _, _ => by simp only [cmpL]; rfl
  | _ :: _, [], _ => by simp only [cmpL]
  | x :: r, y :: q, h => by
    simp only [cmpL]
    exact or2_neg (h x (by simp) y (by simp)) fun _ => cmpL_neg r q fun x hx y hy => h x (by simp [hx]) y (by simp [hy])
theorem cmpL_Tr : ∀ us vs ws : List T, us.length = vs.length → vs.length = ws.length → (∀ x ∈ us, ∀ y ∈ vs, ∀ z ∈ ws, Tr (cmpT x y) (cmpT y z) (cmpT x z)) → Tr (cmpL us vs) (cmpL vs ws) (cmpL us ws)
  | [], [], [], _, _, _ => by simp only [cmpL]; unfold Tr; omega
  | x :: r, y :: q, z :: p, h1, h2, h => by
    simp only [cmpL]
    exact (h x (by simp) y (by simp) z (by simp)).or2 fun _ _ => cmpL_Tr r q p (by simpa using h1) (by simpa using h2) fun x hx y hy z hz => h x (by simp [hx]) y (by simp [hy]) z (by simp [hz])
theorem cmpL_zero : ∀ us vs : List T, us.length = vs.length → (∀ x ∈ us, ∀ y ∈ vs, (cmpT x y = 0 ↔ sameT x y = true)) → (cmpL us vs = 0 ↔ sameK us vs = true)
  | [], [], _, _ => by simp only [cmpL, sameK]
  | x :: r, y :: q, hl, h => by
    simp only [cmpL, sameK, Bool.and_eq_true]
    rw [or2_zero, h x (by simp) y (by simp), cmpL_zero r q (by simpa using hl) fun x hx y hy => h x (by simp [hx]) y (by simp [hy])]
theorem goodK_mem : ∀ (ks : List T), goodK ks → ∀ t ∈ ks, goodT t ∧ nodT t ≤ nodK ks
  | [], _, t, ht => by cases ht
  | a :: q, h, t, ht => by
    simp only [goodK] at h
    simp only [nodK]
    rcases List.mem_cons.mp ht with rfl | ht
    · exact ⟨h.1, by omega⟩
    · have := goodK_mem q h.2 t ht
      exact ⟨this.1, by omega⟩
theorem good_kidsT {t : T} (h : goodT t) : goodK (kidsT t) := by
  obtain ⟨k, n1, lg, l, s, i1, kg, ks⟩ := t
  exact (good_own h).2.2
theorem good_kindT {t : T} (h : goodT t) : 1 ≤ kindT t ∧ kindT t ≤ 6 := by
  obtain ⟨k, n1, lg, l, s, i1, kg, ks⟩ := t
  exact good_kind h
theorem nod_kids (t : T) : nodT t = nodK (kidsT t) + 1 := by
  obtain ⟨k, n1, lg, l, s, i1, kg, ks⟩ := t
  rfl
theorem cmp_neg : ∀ (N : Nat) (a b : T), nodT a ≤ N → goodT a → goodT b → cmpT b a = - cmpT a b
  | 0, a, b, hN, _, _ => by have := nod_pos a; omega
  | N + 1, a, b, hN, ha, hb => by
    by_cases h4 : kindT a = 4 ∧ kindT b = 4
    · obtain ⟨x, y, ⟨n1, lg, l, s, i1, kg, rfl⟩, gx, gy, hn⟩ := good_4 ha h4.1
      obtain ⟨x', y', ⟨n2, lg', l', s', i2, kg', rfl⟩, gx', gy', _⟩ := good_4 hb h4.2
      rw [cmp_4, cmp_4]
      have := nod_pos x
      have := nod_pos y
      exact or2_neg (cmp_neg N x x' (by omega) gx gx') fun _ => cmp_neg N y y' (by omega) gy gy'
    · rw [cmp_k a b h4, cmp_k b a (fun h => h4 ⟨h.2, h.1⟩)]
      refine or2_neg (three_neg _ _) fun e => ?_
      have hk := rank_inj (good_kindT ha) (good_kindT hb) e
      rw [← hk]
      unfold restC
      split
      · exact three_neg _ _
      split
      · exact strC_neg _ _
      split
      · refine or2_neg (three_neg _ _) fun _ => cmpL_neg _ _ fun x hx y hy => ?_
        have h1 := goodK_mem _ (good_kidsT ha) x hx
        have h2 := goodK_mem _ (good_kidsT hb) y hy
        have := nod_kids a
        exact cmp_neg N x y (by omega) h1.1 h2.1
      · rfl
theorem cmp_Tr : ∀ (N : Nat) (a b c : T), nodT a ≤ N → goodT a → goodT b → goodT c → Tr (cmpT a b) (cmpT b c) (cmpT a c)
  | 0, a, b, c, hN, _, _, _ => by have := nod_pos a; omega
  | N + 1, a, b, c, hN, ha, hb, hc => by
    by_cases h4 : kindT a = 4 ∧ kindT b = 4 ∧ kindT c = 4
    · obtain ⟨x, y, ⟨n1, lg, l, s, i1, kg, rfl⟩, gx, gy, hn⟩ := good_4 ha h4.1
      obtain ⟨x', y', ⟨n2, lg', l', s', i2, kg', rfl⟩, gx', gy', _⟩ := good_4 hb h4.2.1
      obtain ⟨x2, y2, ⟨n3, lg2, l2, s2, i3, kg2, rfl⟩, gx2, gy2, _⟩ := good_4 hc h4.2.2
      rw [cmp_4, cmp_4, cmp_4]
      have := nod_pos x
      have := nod_pos y
      exact (cmp_Tr N x x' x2 (by omega) gx gx' gx2).or2 fun _ _ => cmp_Tr N y y' y2 (by omega) gy gy' gy2
    · have key : ∀ a b : T, goodT a → goodT b → ∃ q, cmpT a b = or2 (three (rankI (kindT a)) (rankI (kindT b))) q ∧ (¬ (kindT a = 4 ∧ kindT b = 4) → q = restC (kindT a) a b) := by
        intro a b ha hb
        by_cases h : kindT a = 4 ∧ kindT b = 4
        · exact ⟨cmpT a b, by rw [or2_0 (by rw [h.1, h.2]; rfl)], fun h' => absurd h h'⟩
        · exact ⟨_, cmp_k a b h, fun _ => rfl⟩
      obtain ⟨q1, e1, r1⟩ := key a b ha hb
      obtain ⟨q2, e2, r2⟩ := key b c hb hc
      obtain ⟨q3, e3, r3⟩ := key a c ha hc
      rw [e1, e2, e3]
      refine (three_Tr _ _ _).or2 fun z1 z2 => ?_
      have k1 := rank_inj (good_kindT ha) (good_kindT hb) z1
      have k2 := rank_inj (good_kindT hb) (good_kindT hc) z2
      have hk4 : kindT a ≠ 4 := fun e => h4 ⟨e, k1 ▸ e, k2 ▸ k1 ▸ e⟩
      rw [r1 fun h => hk4 h.1, r2 fun h => hk4 (k1 ▸ h.1), r3 fun h => hk4 h.1, ← k1]
      unfold restC
      split
      · exact three_Tr _ _ _
      split
      · exact strC_Tr _ _ _
      split
      · refine (three_Tr _ _ _).or2 fun l1 l2 => ?_
        have l1 := (three_zero _ _).mp l1
        have l2 := (three_zero _ _).mp l2
        refine cmpL_Tr _ _ _ (by omega) (by omega) fun x hx y hy z hz => ?_
        have h1 := goodK_mem _ (good_kidsT ha) x hx
        have h2 := goodK_mem _ (good_kidsT hb) y hy
        have h3 := goodK_mem _ (good_kidsT hc) z hz
        have := nod_kids a
        exact cmp_Tr N x y z (by omega) h1.1 h2.1 h3.1
      · unfold Tr; omega
theorem numZ_inj {b b' : Bool} {l l' : List Nat} (hl : Limbs l) (hl' : Limbs l') (h : chkN b l = true) (h' : chkN b' l' = true) (e : numZ b l = numZ b' l') : b = b' ∧ l = l' := by
  have h1 := numZ_is hl h
  have h2 := numZ_is hl' h'
  rw [← e] at h2
  exact ⟨h1.2.1.symm.trans h2.2.1, h1.2.2.symm.trans h2.2.2⟩
theorem cmp_same : ∀ (N : Nat) (a b : T), nodT a ≤ N → goodT a → goodT b → (cmpT a b = 0 ↔ sameT a b = true)
  | 0, a, b, hN, _, _ => by have := nod_pos a; omega
  | N + 1, a, b, hN, ha, hb => by
    by_cases h4 : kindT a = 4 ∧ kindT b = 4
    · obtain ⟨x, y, ⟨n1, lg, l, s, i1, kg, rfl⟩, gx, gy, hn⟩ := good_4 ha h4.1
      obtain ⟨x', y', ⟨n2, lg', l', s', i2, kg', rfl⟩, gx', gy', _⟩ := good_4 hb h4.2
      rw [cmp_4, or2_zero]
      have := nod_pos x
      have := nod_pos y
      rw [cmp_same N x x' (by omega) gx gx', cmp_same N y y' (by omega) gy gy']
      simp [sameT, kindT, kidsT, sameK]
    · rw [cmp_k a b h4, or2_zero, three_zero]
      by_cases hk : kindT a = kindT b
      · have hk4 : kindT a ≠ 4 := fun e => h4 ⟨e, hk ▸ e⟩
        rw [hk, eq_self_iff_true, true_and]
        obtain ⟨k, n1, lg, l, s, i1, kg, ks⟩ := a
        obtain ⟨k', n2, lg', l', s', i2, kg', ks'⟩ := b
        simp only [kindT] at hk hk4
        subst hk
        have oa := good_own ha
        have ob := good_own hb
        have kk := good_kind ha
        by_cases h1 : k = 1
        · subst h1
          have ca : chkN n1 l = true := by have := oa.2.1; simp only [ownT, ↓reduceIte, Bool.and_eq_true] at this; exact this.2.1.1.1
          have cb : chkN n2 l' = true := by have := ob.2.1; simp only [ownT, ↓reduceIte, Bool.and_eq_true] at this; exact this.2.1.1.1
          have e1 : restC 1 (.mk 1 n1 lg l s i1 kg ks) (.mk 1 n2 lg' l' s' i2 kg' ks') = three (numZ n1 l) (numZ n2 l') := rfl
          have e2 : sameT (.mk 1 n1 lg l s i1 kg ks) (.mk 1 n2 lg' l' s' i2 kg' ks') = (decide (n1 = n2) && decide (l = l')) := by first | (simp [sameT, kindT, sgnT, limT]; done) | (simp [sameT, kindT, sgnT, limT]; rfl)
          simp only [kindT]
          rw [e1, e2, three_zero, Bool.and_eq_true, decide_eq_true_eq, decide_eq_true_eq]
          exact ⟨numZ_inj oa.1 ob.1 ca cb, fun h => by rw [h.1, h.2]⟩
        by_cases h26 : k = 2 ∨ k = 6
        · have e1 : restC k (.mk k n1 lg l s i1 kg ks) (.mk k n2 lg' l' s' i2 kg' ks') = strC s s' := by unfold restC; rw [if_neg h1, if_pos h26]; rfl
          have e2 : sameT (.mk k n1 lg l s i1 kg ks) (.mk k n2 lg' l' s' i2 kg' ks') = decide (s = s') := by first | (simp [sameT, kindT, strT, h1, h26]; done) | (simp [sameT, kindT, strT, h1, h26]; rfl)
          simp only [kindT]
          rw [e1, e2, strC_zero, decide_eq_true_eq]
        by_cases h5 : k = 5
        · subst h5
          have e1 : restC 5 (.mk 5 n1 lg l s i1 kg ks) (.mk 5 n2 lg' l' s' i2 kg' ks') = or2 (three ks.length ks'.length) (cmpL ks ks') := rfl
          have e2 : sameT (.mk 5 n1 lg l s i1 kg ks) (.mk 5 n2 lg' l' s' i2 kg' ks') = sameK ks ks' := by simp [sameT, kindT, kidsT]
          simp only [kindT]
          rw [e1, e2, or2_zero, three_zero]
          constructor
          · intro ⟨hl, hc⟩
            exact (cmpL_zero _ _ (by omega) fun x hx y hy => cmp_same N x y (by have := (goodK_mem ks oa.2.2 x hx).2; simp only [nodT] at hN; omega) (goodK_mem ks oa.2.2 x hx).1 (goodK_mem ks' ob.2.2 y hy).1).mp hc
          · intro hs
            have hl : ks.length = ks'.length := by
              by_cases e : ks.length = ks'.length
              · exact e
              · rw [sameK_len _ _ e] at hs; cases hs
            exact ⟨by omega, (cmpL_zero _ _ (by omega) fun x hx y hy => cmp_same N x y (by have := (goodK_mem ks oa.2.2 x hx).2; simp only [nodT] at hN; omega) (goodK_mem ks oa.2.2 x hx).1 (goodK_mem ks' ob.2.2 y hy).1).mpr hs⟩
        have h3 : k = 3 := by omega
        subst h3
        simp [restC, kindT, sameT]
      · constructor
        · intro ⟨h, _⟩
          exact absurd (rank_inj (good_kindT ha) (good_kindT hb) ((three_zero _ _).mpr h)) hk
        · intro h
          exfalso
          obtain ⟨k, n1, lg, l, s, i1, kg, ks⟩ := a
          have hk' : k ≠ kindT b := hk
          simp only [sameT, if_neg hk'] at h
          cases h
end Go.Ab

/- The statement TermOrders. Conditions: limbs in range; texts in range. -/
namespace Go.Ab
open Go.Proofs
set_option maxRecDepth 100000
set_option linter.unusedSimpArgs false

mutual
theorem ht_nod : ∀ t : T, htT t ≤ nodT t
  | .mk _ _ _ _ _ _ _ ks => by have := htK_nod ks; simp only [htT, nodT]; omega
theorem htK_nod : ∀ ks : List T, htK ks ≤ nodK ks
  | [] => Nat.le_refl _
  | t :: r => by have := ht_nod t; have := htK_nod r; simp only [htK, nodK]; omega
end
mutual
theorem good_few : ∀ t : T, goodT t → fewT 100000 t
  | .mk k b lg l s m kg ks, h => by
    have ho := good_own h
    have h1 := ho.2.1
    simp only [ownT, Bool.and_eq_true, decide_eq_true_eq] at h1
    simp only [fewT]
    refine ⟨?_, ?_, goodK_few ks ho.2.2⟩
    · have h2 := h1.2.1.1.1
      by_cases hk : k = 1
      · rw [if_pos hk] at h2
        simp only [chkN, Bool.and_eq_true, decide_eq_true_eq] at h2
        omega
      · rw [if_neg hk] at h2
        simp only [zeroB, Bool.and_eq_true, decide_eq_true_eq] at h2
        omega
    · have h2 := h1.2.1.2
      by_cases k4 : k = 4
      · rw [if_pos k4, decide_eq_true_eq] at h2; omega
      · rw [if_neg k4] at h2
        by_cases k5 : k = 5
        · rw [if_pos k5, decide_eq_true_eq] at h2; omega
        · rw [if_neg k5, decide_eq_true_eq] at h2; omega
theorem goodK_few : ∀ ks : List T, goodK ks → fewK 100000 ks
  | [], _ => by simp only [fewK]
  | t :: r, h => by simp only [goodK] at h; simp only [fewK]; exact ⟨good_few t h.1, goodK_few r h.2⟩
end
theorem or2_rng {p q : Int} (h1 : -1 ≤ p ∧ p ≤ 1) (h2 : -1 ≤ q ∧ q ≤ 1) : -1 ≤ or2 p q ∧ or2 p q ≤ 1 := by unfold or2; split <;> assumption
theorem three_rng (a b : Int) : -1 ≤ three a b ∧ three a b ≤ 1 := by have := three_is a b; omega
theorem strC_rng (a b : List UInt8) : -1 ≤ strC a b ∧ strC a b ≤ 1 := by unfold strC; split <;> (try split) <;> omega
theorem cmpL_rng : ∀ us vs : List T, (∀ x ∈ us, ∀ y ∈ vs, -1 ≤ cmpT x y ∧ cmpT x y ≤ 1) → -1 ≤ cmpL us vs ∧ cmpL us vs ≤ 1
  | [], [], _ => by simp only [cmpL]; omega
  | [], _ :: _, _ => by simp only [cmpL]; omega
  | _ :: _, [], _ => by simp only [cmpL]; omega
  | x :: r, y :: q, h => by
    simp only [cmpL]
    exact or2_rng (h x (by simp) y (by simp)) (cmpL_rng r q fun x hx y hy => h x (by simp [hx]) y (by simp [hy]))
theorem cmp_rng : ∀ (N : Nat) (a b : T), nodT a ≤ N → goodT a → goodT b → -1 ≤ cmpT a b ∧ cmpT a b ≤ 1
  | 0, a, b, hN, _, _ => by have := nod_pos a; omega
  | N + 1, a, b, hN, ha, hb => by
    by_cases h4 : kindT a = 4 ∧ kindT b = 4
    · obtain ⟨x, y, ⟨n1, lg, l, s, i1, kg, rfl⟩, gx, gy, hn⟩ := good_4 ha h4.1
      obtain ⟨x', y', ⟨n2, lg', l', s', i2, kg', rfl⟩, gx', gy', _⟩ := good_4 hb h4.2
      rw [cmp_4]
      have := nod_pos x
      have := nod_pos y
      exact or2_rng (cmp_rng N x x' (by omega) gx gx') (cmp_rng N y y' (by omega) gy gy')
    · rw [cmp_k a b h4]
      refine or2_rng (three_rng _ _) ?_
      unfold restC
      split
      · exact three_rng _ _
      split
      · exact strC_rng _ _
      split
      · refine or2_rng (three_rng _ _) (cmpL_rng _ _ fun x hx y hy => ?_)
        have h1 := goodK_mem _ (good_kidsT ha) x hx
        have h2 := goodK_mem _ (good_kidsT hb) y hy
        have := nod_kids a
        exact cmp_rng N x y (by omega) h1.1 h2.1
      · omega
theorem qCmp (R : Nat) (hR : 100000 ≤ R) (D : Nat) (hD : 6006 ≤ D) (a b : T) (ha : goodT a) (hb : goodT b) (hn : nodT a ≤ 2000) : evalFn Tryd.prog cfg0 R D 60 [.tree (encT a), .tree (encT b)] = some (.tree (.int .i64 (cmpT a b)), [[], []]) :=
  evalFn_mono hR 6006 D hD _ _ _ (tcmp_eq 2000 6006 a b (by have := ht_nod a; omega) (by omega) (by omega) ha hb)
theorem qSame (R : Nat) (hR : 100000 ≤ R) (D : Nat) (hD : 6006 ≤ D) (a b : T) (ha : goodT a) (hn : nodT a ≤ 2000) : evalFn Tryd.prog cfg0 R D 72 [.tree (encT a), .tree (encT b)] = some (.tree (.bool (sameT a b)), [[], []]) :=
  evalFn_mono hR 6000 D (by omega) _ _ _ (tsame_eq 2000 6000 a b (by have := ht_nod a; omega) (by omega) (good_few a ha))
end Go.Ab

/- The reference's own functions on numbers: reading, normal forms, comparing. Conditions: limbs in range, not too many. -/
namespace Go.Ab
open Go.Proofs
set_option maxRecDepth 100000
set_option linter.unusedSimpArgs false

/-- A part of a list, from its beginning. -/
theorem slice22h (s : St) (b : Gk) (l : List Nat) (k : Nat) (h : k ≤ l.length) : ∃ b', sliceA Tryd.prog 25 s (encL b l) none (some (.int .i64 (k : Int))) none = some (encL b' (l.take k)) := by
  have hx : (encC l).length = l.length * 1 := by rw [encC_len]; omega
  simp only [sliceA, tk22, encL, esz31, Option.isSome_none, Option.isNone_some, Bool.false_eq_true, false_and, if_false, boundA, Option.bind_some, hx, if_true, Int.toNat_natCast]
  rw [if_pos (by omega)]
  simp only [Option.bind_some, Nat.zero_mul, List.drop_zero, Nat.sub_zero, Nat.mul_one, encC_take]
  have hl : (l.take k).length = k := by rw [List.length_take]; omega
  rw [hl]
  by_cases hc : (false = true ∧ l.length = k) ∨ (none = (none : Option AV) ∧ (gr b = .tight ∨ gr b = .nil) ∧ k = l.length)
  · exact ⟨.t, by simp_all [gr]⟩
  · exact ⟨.l, by simp_all [gr]⟩
def encF (v : Nat) : AV := encL .l (digs v)
theorem rnorm_eq (n d : Nat) (b : Gk) (l : List Nat) (hl : Limbs l) (hn : l.length < n) (hlen : l.length ≤ 1000000) : evalFn Tryd.prog cfg0 n (d+1) 80 [.tree (encL b l)] = some (.tree (encF (val l)), [[]]) := by
  rw [evalFn_go _ Tryd.func80 (by unfold Tryd.f80; rfl) (by unfold Tryd.f80; decide) (Nat.le_of_ble_eq_true (by unfold Tryd.f80; rfl)) (by kernel_rfl)]
  simp only [zaa, zab, zac, zad, zae, zaf, zag, zah, zai, zaj, zak, zal, zam, zan, zao, zap, zaq, zar, zas, zat, zau, zav, zaw, zax, zay, zaz, zba, zbb, zbc, zbd, zbe, zbf, zbg, zbh, zbi, zbj, Nat.reduceBEq, Bool.or_self, Bool.or_false, Bool.or_true, Bool.and_true, Bool.and_false, Bool.true_and, Bool.false_and, Option.isNone_none, Option.isNone_some, Option.isSome_some, Option.isSome_none, zbk, zbl, zbm, zbn, zbo, zbp, zbq, zbr, zbs, zbt, zbu, zbv, zbw, zbx, zby, zbz, zca, zcb, zcc, zcd, zce, zcf, zcg, zch, zci, zcj, zck, zcl, zcm, zcn, zco, zcp, zcq, zcr, zcs, zct, zcu, zcv, zcw, zcx, zcy, zcz, zda, zdb, zdc, zdd, zde, zdf, Option.getD_some, Option.getD_none, zet, zeu, zev, zew, zex, zey, zez, zfa, Option.map_some, Option.map_none, Option.bind_some, List.map_cons, List.map_nil, List.cons_append, List.nil_append, ↓reduceIte, Nat.reduceEqDiff, Nat.reduceAdd, decide_true, decide_false, Bool.true_eq_false, Bool.false_eq_true, env0, List.getElem?_cons_zero, List.getElem?_cons_succ, zdg, zdh, zdi, zdj, zdk, zdl, zdm, zdn, ia22, ld31, zdo, zdp, st0_1, den_loop]
  refine loop_ends (X := Nat) (fun k env s => env 0 = encL b l ∧ env 3 = .int .i64 (k : Int) ∧ s = dead ∧ k ≤ l.length ∧ val (l.take k) = val l) id (fun _ => (.tree (encF (val l)), [[]])) ?_ n l.length _ _ hn ⟨rfl, rfl, rfl, Nat.le_refl _, by simp⟩
  intro k x hx ih env s ⟨h0, h3, hs, hk, hv⟩
  subst hs
  obtain ⟨b', e3⟩ := slice22h dead b l x hk
  have fin : (∀ y, x = y + 1 → l.getD y 0 ≠ 0) → encF (val l) = .sl (encC (l.take x)) (l.take x).length .loose := by
    intro hz
    have hd : digs (val l) = l.take x := by
      rw [← hv]
      refine digs_val _ (hl.take _) ?_
      intro u hu
      cases x with
      | zero => simp at hu
      | succ y =>
        have el : (l.take (y + 1)).length = y + 1 := by rw [List.length_take]; omega
        rw [List.getLast?_eq_getElem?, el, Nat.add_sub_cancel, List.getElem?_take, if_pos (Nat.lt_succ_self y)] at hu
        have := hz y rfl
        rw [List.getD_eq_getElem?_getD, hu] at this
        exact this
    rw [encF, hd]; rfl
  obtain ⟨s', p, t, ea, _⟩ := append22t 21 dead (.sl [] 0 .nil) [] (l.take x) b' (hold_nil _) (by simp only [List.length_nil, List.length_take]; omega)
  rw [List.nil_append] at ea
  have hf : finish1 (cfg0.keep 80) [Arg.tree (encL b l)].length s' (.sl (encC (l.take x)) (l.take x).length (.tok p t)) = some (.tree (.sl (encC (l.take x)) (l.take x).length .loose), s') := rfl
  by_cases hp : x = 0
  · subst hp
    have q1 : ¬ (((0 : Nat) : Int) > 0) := by omega
    simp only [zaa, zab, zac, zad, zae, zaf, zag, zah, zai, zaj, zak, zal, zam, zan, zao, zap, zaq, zar, zas, zat, zau, zav, zaw, zax, zay, zaz, zba, zbb, zbc, zbd, zbe, zbf, zbg, zbh, zbi, zbj, Nat.reduceBEq, Bool.or_self, Bool.or_false, Bool.or_true, Bool.and_true, Bool.and_false, Bool.true_and, Bool.false_and, Option.isNone_none, Option.isNone_some, Option.isSome_some, Option.isSome_none, zbk, zbl, zbm, zbn, zbo, zbp, zbq, zbr, zbs, zbt, zbu, zbv, zbw, zbx, zby, zbz, zca, zcb, zcc, zcd, zce, zcf, zcg, zch, zci, zcj, zck, zcl, zcm, zcn, zco, zcp, zcq, zcr, zcs, zct, zcu, zcv, zcw, zcx, zcy, zcz, zda, zdb, zdc, zdd, zde, zdf, Option.getD_some, Option.getD_none, zet, zeu, zev, zew, zex, zey, zez, zfa, Option.map_some, Option.map_none, Option.bind_some, List.map_cons, List.map_nil, List.cons_append, List.nil_append, ↓reduceIte, Nat.reduceEqDiff, Nat.reduceAdd, decide_true, decide_false, Bool.true_eq_false, Bool.false_eq_true, zdg, zdh, zdi, zdj, zdk, zdl, zdm, zdn, ia22, ld31, zdo, zdp, h0, h3, q1, Option.map_none, e3, ea]
    rw [fin (by omega)]
    exact finish_tree _ _ _ _ _ _ (.sl (encC (l.take 0)) (l.take 0).length (.tok p t)) _ _ (by simp only [zfa, ↓reduceIte]) hf rfl
  · obtain ⟨y, rfl⟩ : ∃ y, x = y + 1 := ⟨x - 1, by omega⟩
    have p1 : ((y + 1 : Nat) : Int) > 0 := by omega
    have p2 : ((y + 1 : Nat) : Int) - 1 = (y : Int) := by omega
    have p3 : (y : Int) < l.length := by omega
    have p4 : y < l.length := by omega
    have p6 : (0 : Int) ≤ y := by omega
    have e1 : binA Tryd.prog .sub 3 (.int .i64 ((y + 1 : Nat) : Int)) (.int .i64 1) = some (.int .i64 (y : Int)) := by rw [i_sub _ _ _ _ (by omega) (by omega), p2]
    by_cases hz : l.getD y 0 = 0
    · have p5 : (((l.getD y 0 : Nat) : Int) == 0) = true := by rw [hz]; rfl
      simp only [zaa, zab, zac, zad, zae, zaf, zag, zah, zai, zaj, zak, zal, zam, zan, zao, zap, zaq, zar, zas, zat, zau, zav, zaw, zax, zay, zaz, zba, zbb, zbc, zbd, zbe, zbf, zbg, zbh, zbi, zbj, Nat.reduceBEq, Bool.or_self, Bool.or_false, Bool.or_true, Bool.and_true, Bool.and_false, Bool.true_and, Bool.false_and, Option.isNone_none, Option.isNone_some, Option.isSome_some, Option.isSome_none, zbk, zbl, zbm, zbn, zbo, zbp, zbq, zbr, zbs, zbt, zbu, zbv, zbw, zbx, zby, zbz, zca, zcb, zcc, zcd, zce, zcf, zcg, zch, zci, zcj, zck, zcl, zcm, zcn, zco, zcp, zcq, zcr, zcs, zct, zcu, zcv, zcw, zcx, zcy, zcz, zda, zdb, zdc, zdd, zde, zdf, Option.getD_some, Option.getD_none, zet, zeu, zev, zew, zex, zey, zez, zfa, Option.map_some, Option.map_none, Option.bind_some, List.map_cons, List.map_nil, List.cons_append, List.nil_append, ↓reduceIte, Nat.reduceEqDiff, Nat.reduceAdd, decide_true, decide_false, Bool.true_eq_false, Bool.false_eq_true, zdg, zdh, zdi, zdj, zdk, zdl, zdm, zdn, ia22, ld31, zdo, zdp, h0, h3, p1, e1, p6, p3, Int.toNat_natCast, p4, p5]
      refine ih y _ _ (Nat.lt_succ_self _) rfl ⟨?_, ?_, rfl, by omega, ?_⟩
      · simp only [zfa, ↓reduceIte, Nat.reduceEqDiff, h0]
      · simp only [zfa, ↓reduceIte, Nat.reduceEqDiff]
      · rw [← hv, val_take_succ _ _ p4, hz, Nat.mul_zero, Nat.add_zero]
    · have p5 : (((l.getD y 0 : Nat) : Int) == 0) = false := by
        rw [beq_eq_false_iff_ne]; omega
      simp only [zaa, zab, zac, zad, zae, zaf, zag, zah, zai, zaj, zak, zal, zam, zan, zao, zap, zaq, zar, zas, zat, zau, zav, zaw, zax, zay, zaz, zba, zbb, zbc, zbd, zbe, zbf, zbg, zbh, zbi, zbj, Nat.reduceBEq, Bool.or_self, Bool.or_false, Bool.or_true, Bool.and_true, Bool.and_false, Bool.true_and, Bool.false_and, Option.isNone_none, Option.isNone_some, Option.isSome_some, Option.isSome_none, zbk, zbl, zbm, zbn, zbo, zbp, zbq, zbr, zbs, zbt, zbu, zbv, zbw, zbx, zby, zbz, zca, zcb, zcc, zcd, zce, zcf, zcg, zch, zci, zcj, zck, zcl, zcm, zcn, zco, zcp, zcq, zcr, zcs, zct, zcu, zcv, zcw, zcx, zcy, zcz, zda, zdb, zdc, zdd, zde, zdf, Option.getD_some, Option.getD_none, zet, zeu, zev, zew, zex, zey, zez, zfa, Option.map_some, Option.map_none, Option.bind_some, List.map_cons, List.map_nil, List.cons_append, List.nil_append, ↓reduceIte, Nat.reduceEqDiff, Nat.reduceAdd, decide_true, decide_false, Bool.true_eq_false, Bool.false_eq_true, zdg, zdh, zdi, zdj, zdk, zdl, zdm, zdn, ia22, ld31, zdo, zdp, h0, h3, p1, e1, p6, p3, Int.toNat_natCast, p4, p5, e3, ea]
      rw [fin (by intro y' hy'; have : y' = y := by omega
                  subst this; exact hz)]
      exact finish_tree _ _ _ _ _ _ (.sl (encC (l.take (y + 1))) (l.take (y + 1)).length (.tok p t)) _ _ (by simp only [zfa, ↓reduceIte]) hf rfl
end Go.Ab

/- The reference's own functions on numbers: Cmp, Add, Sub. Conditions: limbs in range, not too many. -/
namespace Go.Ab
open Go.Proofs
set_option maxRecDepth 100000
set_option linter.unusedSimpArgs false

theorem rnorm_hold (n d : Nat) (s : St) (v : AV) (o : List Nat) (h : Hold s v o) (ho : Limbs o) (hn : o.length < n) (hl : o.length ≤ 1000000) (D : Nat) : ∃ s', callA cfg0 (evalFn Tryd.prog cfg0 n (d + 1)) D s 80 [v] = some (encF (val o), s') := by
  rcases h with ⟨rfl, rfl⟩ | ⟨p, t, rfl, hp⟩ | ⟨p, t, rfl, hp⟩
  · exact ⟨s, callA_L1 _ D s 80 .n [] _ (rnorm_eq n d .n [] ho hn hl)⟩
  · have := rnorm_eq n d .l o ho hn hl
    rw [show encL .l o = .sl (encC o) o.length .loose from rfl] at this
    refine ⟨s, ?_⟩
    simp [callA, argsA, argA, givesL, lendsL, givesOf, lendsOf, this, backA, resA, lin0]
  · have := rnorm_eq n d .l o ho hn hl
    rw [show encL .l o = .sl (encC o) o.length .loose from rfl] at this
    have hf : flatR (.tree (encF (val o))) = false := rfl
    refine ⟨frzAt s p, ?_⟩
    have ht : (encC o).take o.length = encC o := List.take_of_length_le (by rw [encC_len]; exact Nat.le_refl _)
    have hle : 0 + o.length * 1 ≤ (encC o).length := by rw [encC_len]; omega
    simp [callA, argsA, argA, cellsAt, hp, ht, encC_len, givesL, lendsL, givesOf, lendsOf, this, hf, backA, resA, lin0]

theorem finish_F (k : Bool) (xs : List Arg) (t : Nat) (env : Env) (s : St) (v : Nat) (os : List (List AV)) (hv : env t = encF v) (ho : outsA s 0 xs = some os) :
    finishP Tryd.prog k xs #[.tmp t] env s = some (.tree (encF v), os) := finish_L _ _ _ _ _ _ _ _ hv ho
theorem cmpZ_1 (x y : Nat) (h : x < y) : cmpZ x y = -1 := by simp only [cmpZ, h, if_true]
theorem cmpZ_2 (x y : Nat) (h : y < x) : cmpZ x y = 1 := by
  have : ¬ x < y := by omega
  simp only [cmpZ, h, this, if_true, if_false]
end Go.Ab

/- The reference's own functions on numbers: Add, Sub. Conditions: limbs in range, not too many. -/
namespace Go.Ab
open Go.Proofs
set_option maxRecDepth 100000
set_option linter.unusedSimpArgs false

end Go.Ab

/- The reference's Sub. Conditions: limbs in range, not too many. -/
namespace Go.Ab
open Go.Proofs
set_option maxRecDepth 100000
set_option linter.unusedSimpArgs false

theorem val_take_small (b : List Nat) (hb : Limbs b) (k : Nat) (h : val b < B ^ k) : val (b.take k) = val b := by
  have h1 : val b = val (b.take k) + B ^ (b.take k).length * val (b.drop k) := by rw [← val_app, List.take_append_drop]
  rw [val_drop b hb k, Nat.div_eq_of_lt h, Nat.mul_zero, Nat.add_zero] at h1
  exact h1.symm
theorem rsub_end (a b o : List Nat) (c : Nat) (ha : Limbs a) (hb : Limbs b) (ho : Limbs o) (hi : o.length = a.length) (hle : val b ≤ val a) (h : val o + val (b.take a.length) = val (a.take a.length) + B ^ a.length * c) : val o = val a - val b := by
  have h0 := val_lt a ha
  rw [List.take_length, val_take_small b hb _ (by omega)] at h
  have h1 := val_lt o ho
  rw [hi] at h1
  rcases Nat.eq_zero_or_pos c with rfl | hc
  · rw [Nat.mul_zero, Nat.add_zero] at h; omega
  · exfalso
    have : B ^ a.length * 1 ≤ B ^ a.length * c := Nat.mul_le_mul_left _ hc
    omega
/-- A difference as the reference gives it. -/
def encS (x y : Nat) : AV := if x < y then .sl [] 0 .nil else encF (x - y)
theorem encS_sh (x y : Nat) : Sh (encS x y) (digs (x - y)) := by
  unfold encS
  split
  · rw [Nat.sub_eq_zero_of_le (by omega), digs_0]; exact ⟨_, rfl⟩
  · exact sh_L _ _
end Go.Ab

/- The reference's Mul. Conditions: limbs in range, not too many. -/
namespace Go.Ab
open Go.Proofs
set_option maxRecDepth 100000
set_option linter.unusedSimpArgs false

theorem isTree_encL (b : Gk) (l : List Nat) : isTree (encL b l) = true := by cases b <;> rfl
theorem rmul_end (a b o o' : List Nat) (ha : Limbs a) (hb : Limbs b) (i c x : Nat) (hx : x = a.getD i 0) (ho : val o = val (a.take i) * val b) (h : val o' + B ^ (i + (b.length + 1)) * c = val o + B ^ i * (x * val (b.take (b.length + 1)))) : val o' = val (a.take (i + 1)) * val b := by
  have e : val o + B ^ i * (x * val (b.take (b.length + 1))) = val (a.take (i + 1)) * val b := by
    rw [List.take_of_length_le (by omega), ho, val_take_succ', Nat.add_mul, hx, Nat.mul_assoc]
  rw [e] at h
  have h1 := mul_lt a b ha hb (i + 1)
  rw [show i + 1 + b.length = i + (b.length + 1) by omega] at h1
  rcases Nat.eq_zero_or_pos c with rfl | hc
  · rw [Nat.mul_zero, Nat.add_zero] at h; exact h
  · exfalso
    have : B ^ (i + (b.length + 1)) * 1 ≤ B ^ (i + (b.length + 1)) * c := Nat.mul_le_mul_left _ hc
    omega

end Go.Ab

/- The reference's Shr. Conditions: limbs in range, not too many. -/
namespace Go.Ab
open Go.Proofs
set_option maxRecDepth 100000
set_option linter.unusedSimpArgs false

theorem tk42 : tkOf Tryd.prog 104 = .int .u64 := by kernel_rfl
theorem conv3_42 (s : St) (x : Nat) (h : x < 4294967296) : convA Tryd.prog 3 104 s (.int .i64 (x : Int)) = some (.int .u64 (x : Int)) := by
  simp only [convA, tk3, tk42]
  rw [u64_wrap, Nat.mod_eq_of_lt (by omega)]
theorem getD_drop (l : List Nat) (w i : Nat) : (l.drop w).getD i 0 = l.getD (w + i) 0 := by
  rw [List.getD_eq_getElem?_getD, List.getD_eq_getElem?_getD, List.getElem?_drop]
theorem take_next (L : List Nat) (i : Nat) (h : i < L.length) : L.take (i + 1) = L.take i ++ [L.getD i 0] := by
  rw [List.take_succ_eq_append_getElem h, List.getD_eq_getElem?_getD, List.getElem?_eq_getElem h]; rfl
end Go.Ab

/- The reference's Len. Conditions: limbs in range, not too many. -/
namespace Go.Ab
open Go.Proofs
set_option maxRecDepth 100000
set_option linter.unusedSimpArgs false

theorem rnorm_call (n d : Nat) (b : Gk) (o : List Nat) (ho : Limbs o) (hn : o.length < n) (hl : o.length ≤ 1000000) (D : Nat) (s : St) : callA cfg0 (evalFn Tryd.prog cfg0 n (d + 1)) D s 80 [encL b o] = some (encF (val o), s) :=
  callA_L1 _ D s 80 b o _ (rnorm_eq n d b o ho hn hl)
theorem lenF (s : St) (v : Nat) : lenA Tryd.prog 25 s (encF v) = some (.int .i64 ((digs v).length : Int)) := zdg s _ _
end Go.Ab

/- The reference's Shl. Conditions: limbs in range, not too many. -/
namespace Go.Ab
open Go.Proofs
set_option maxRecDepth 100000
set_option linter.unusedSimpArgs false

theorem low_or (x c r : Nat) (hr : r < 32) (hc : c < 2 ^ r) : (c ||| x * 2 ^ r % 4294967296) = c + x * 2 ^ r % 4294967296 := by
  have e : x * 2 ^ r % 4294967296 = (x % 2 ^ (32 - r)) * 2 ^ r := by
    rw [show (4294967296 : Nat) = 2 ^ (32 - r) * 2 ^ r by rw [← Nat.pow_add, show 32 - r + r = 32 by omega], Nat.mul_mod_mul_right]
  rw [e]; exact shl_or _ _ _ hc
theorem digit_small (o : List Nat) (h : Limbs o) (j C : Nat) (hv : val o < B ^ j * C) : o.getD j 0 < C := by
  rw [← digit o h j]
  have : val o / B ^ j < C := by rw [Nat.div_lt_iff_lt_mul (Nat.pow_pos (by decide)), Nat.mul_comm]; exact hv
  exact Nat.lt_of_le_of_lt (Nat.mod_le _ _) this
theorem rshl_lt (a : List Nat) (ha : Limbs a) (w r i : Nat) : B ^ w * (2 ^ r * val (a.take i)) < B ^ (i + w) * 2 ^ r := by
  have h := val_take_lt a ha i
  rw [Nat.add_comm i w, Nat.pow_add, Nat.mul_assoc, Nat.mul_comm (B ^ i) (2 ^ r)]
  exact Nat.mul_lt_mul_of_pos_left (Nat.mul_lt_mul_of_pos_left h (Nat.two_pow_pos r)) (Nat.pow_pos (by decide))
theorem rshl_step (a o : List Nat) (w r i : Nat) (hl : i + w + 1 < o.length) (h0 : o.getD (i + w + 1) 0 = 0) (h : val o = B ^ w * (2 ^ r * val (a.take i))) :
    val ((o.set (i + w) (o.getD (i + w) 0 + a.getD i 0 * 2 ^ r % 4294967296)).set (i + w + 1) (a.getD i 0 * 2 ^ r / 4294967296)) = B ^ w * (2 ^ r * val (a.take (i + 1))) := by
  have h1 := val_set o (i + w) (o.getD (i + w) 0 + a.getD i 0 * 2 ^ r % 4294967296) (by omega)
  have h2 := val_set (o.set (i + w) (o.getD (i + w) 0 + a.getD i 0 * 2 ^ r % 4294967296)) (i + w + 1) (a.getD i 0 * 2 ^ r / 4294967296) (by rw [List.length_set]; exact hl)
  rw [getD_set_ne _ _ _ _ (by omega), h0, Nat.mul_zero, Nat.add_zero] at h2
  rw [Nat.mul_add] at h1
  rw [h2, val_take_succ']
  generalize a.getD i 0 = x at *
  have e : B ^ (i + w) * (x * 2 ^ r % 4294967296) + B ^ (i + w + 1) * (x * 2 ^ r / 4294967296) = B ^ (i + w) * (x * 2 ^ r) := by
    rw [Nat.pow_succ, Nat.mul_assoc, ← Nat.mul_add]
    have : x * 2 ^ r % 4294967296 + B * (x * 2 ^ r / 4294967296) = x * 2 ^ r := Nat.mod_add_div _ _
    rw [this]
  have e2 : B ^ w * (2 ^ r * (val (a.take i) + B ^ i * x)) = B ^ w * (2 ^ r * val (a.take i)) + B ^ (i + w) * (x * 2 ^ r) := by
    rw [Nat.mul_add, Nat.mul_add, Nat.add_comm i w, Nat.pow_add]
    congr 1
    rw [Nat.mul_assoc]
    congr 1
    rw [Nat.mul_comm (2 ^ r), Nat.mul_assoc]
  omega
end Go.Ab

/- The reference's Div. Conditions: limbs in range, not too many. -/
namespace Go.Ab
open Go.Proofs
set_option maxRecDepth 100000
set_option linter.unusedSimpArgs false

theorem num_F (v k : Nat) (hk : k ≤ 1000) (h : v < B ^ k) : Num (encF v) v := ⟨_, sh_L _ _, limbs_digs v, Nat.le_trans (digs_len v k h) hk, val_digs v⟩
section
variable (n d : Nat) (hn : 100000 ≤ n) (D : Nat) (s : St)
include hn
theorem rcNorm {w : AV} {v : Nat} (h : Num w v) : callA cfg0 (evalFn Tryd.prog cfg0 n (d+1)) D s 80 [w] = some (encF v, s) := by
  obtain ⟨l, hs, hl, hk, rfl⟩ := h
  exact callA_S1 _ D s 80 hs _ fun b => rnorm_eq n d b l hl (by omega) (by omega)
end
end Go.Ab
