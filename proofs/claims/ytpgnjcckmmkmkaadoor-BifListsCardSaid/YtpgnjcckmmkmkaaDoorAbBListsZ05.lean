/- Several texts put together: AbbB1, AbbB2, AbbB3, AbbA21, AbbR10, AbbA22, AbMn3, AbMn4, AbMn5, AbMn6, AbMn7, AbbA23, AbbA24, AbbA25, AbbA12, AbbA13, AbbA14, AbbA15, AbbA10, AbbA26, AbbA11, AbbA27, AbbA8, AbbA9o, AbbA28, AbMn8, AbbX1, AbbX2, AbbA19, AbbX3, AbbX4, AbbB4, AbbB5, AbbT25, AbbB6, AbbD1, AbbD2. Conditions: as each part says. -/
import Derived.Test.YtpgnjcckmmkmkaaDoorAbBListsZ04
import Derived.Test.YtpgnjcckmmkmkaaDoorAbBListsZ03
import Derived.Laws.Sem
/- relictref03.Same, walked. Conditions: so many limbs, nodes at most. -/
namespace Go.Ab
open Go.Proofs
set_option maxRecDepth 100000
set_option linter.unusedSimpArgs false

theorem b_neqV (a b : Bool) : binA Tryd.prog .neq 4 (.bool a) (.bool b) = some (.bool (!(a == b))) := bool_neq 4 tk4 a b
theorem rsameNum_eq (n d : Nat) (b1 b2 : Bool) (b b' : Gk) (l m : List Nat) (hn : l.length < n) (hk : l.length ≤ 1000000) : evalFn Tryd.prog cfg0 n (d+1) 24 [.tree (encA b1 b l), .tree (encA b2 b' m)] = some (.tree (.bool (decide (b1 = b2) && decide (l = m))), [[], []]) := by
  rw [evalFn_go _ Tryd.func24 (by unfold Tryd.f24; rfl) (by unfold Tryd.f24; decide) (Nat.le_of_ble_eq_true (by unfold Tryd.f24; rfl)) (by kernel_rfl)]
  by_cases hb : b1 = b2
  rotate_left
  · have p0 : (b1 == b2) = false := beq_eq_false_iff_ne.mpr hb
    rw [decide_eq_false hb, Bool.false_and]
    simp only [zaa, zab, zac, zad, zae, zaf, zag, zah, zai, zaj, zak, zal, zam, zan, zao, zap, zaq, zar, zas, zat, zau, zav, zaw, zax, zay, zaz, zba, zbb, zbc, zbd, zbe, zbf, zbg, zbh, zbi, zbj, zbk, zbl, zbm, zbn, zbo, zbp, zbq, Nat.reduceBEq, Bool.or_self, Bool.or_false, Bool.or_true, Bool.and_true, Bool.and_false, Bool.true_and, Bool.false_and, Option.isNone_none, Option.isNone_some, Option.isSome_some, Option.isSome_none, zbr, zbs, zbt, zbu, zbv, zbw, zbx, zby, zbz, zca, zcb, zcc, zcd, zce, zcf, zcg, zch, zci, zcj, zck, zcl, zcm, zcn, zco, zcp, zcq, zcr, own0, zcs, zct, zcu, zcv, zcw, zcx, zcy, zcz, zda, zdb, zdc, zdd, zde, zdf, zdg, zdh, zdi, zdj, zdk, zdl, zdm, zdn, zdo, zdp, zdq, zdr, zds, zdt, zdu, Option.getD_some, Option.getD_none, zfb, zfc, zfd, zfe, zff, zfg, zfh, zfi, Option.map_some, Option.map_none, Option.bind_some, List.map_cons, List.map_nil, List.cons_append, List.nil_append, ↓reduceIte, Nat.reduceEqDiff, Nat.reduceAdd, decide_true, decide_false, Bool.true_eq_false, Bool.false_eq_true, env0, List.getElem?_cons_zero, List.getElem?_cons_succ, zdv, zdw, zdx, zdy, zdz, zea, zeb, zec, ia22, ld31, zed, zee, zef, zeg, zeh, zei, zej, zek, zel, zem, zen, zeo, zep, zeq, zer, fa_0, fa_1, zes, bd_0, bd_2, zet, fd_1, zeu, Nat.zero_add, encA, b_neqV, p0, Bool.not_false]
    exact finish_b _ _ _ _ _ _ _ (by first | (simp only [zfi, ↓reduceIte, Nat.reduceEqDiff]; done) | (simp only [zfi, ↓reduceIte, Nat.reduceEqDiff]; rfl)) rfl
  have p0 : (b1 == b2) = true := beq_iff_eq.mpr hb
  rw [decide_eq_true hb, Bool.true_and]
  by_cases hlm : l.length = m.length
  · have p1 : ((l.length : Int) != (m.length : Int)) = false := by rw [hlm]; exact bne_self_eq_false _
    simp only [zaa, zab, zac, zad, zae, zaf, zag, zah, zai, zaj, zak, zal, zam, zan, zao, zap, zaq, zar, zas, zat, zau, zav, zaw, zax, zay, zaz, zba, zbb, zbc, zbd, zbe, zbf, zbg, zbh, zbi, zbj, zbk, zbl, zbm, zbn, zbo, zbp, zbq, Nat.reduceBEq, Bool.or_self, Bool.or_false, Bool.or_true, Bool.and_true, Bool.and_false, Bool.true_and, Bool.false_and, Option.isNone_none, Option.isNone_some, Option.isSome_some, Option.isSome_none, zbr, zbs, zbt, zbu, zbv, zbw, zbx, zby, zbz, zca, zcb, zcc, zcd, zce, zcf, zcg, zch, zci, zcj, zck, zcl, zcm, zcn, zco, zcp, zcq, zcr, own0, zcs, zct, zcu, zcv, zcw, zcx, zcy, zcz, zda, zdb, zdc, zdd, zde, zdf, zdg, zdh, zdi, zdj, zdk, zdl, zdm, zdn, zdo, zdp, zdq, zdr, zds, zdt, zdu, Option.getD_some, Option.getD_none, zfb, zfc, zfd, zfe, zff, zfg, zfh, zfi, Option.map_some, Option.map_none, Option.bind_some, List.map_cons, List.map_nil, List.cons_append, List.nil_append, ↓reduceIte, Nat.reduceEqDiff, Nat.reduceAdd, decide_true, decide_false, Bool.true_eq_false, Bool.false_eq_true, env0, List.getElem?_cons_zero, List.getElem?_cons_succ, zdv, zdw, zdx, zdy, zdz, zea, zeb, zec, ia22, ld31, zed, zee, zef, zeg, zeh, zei, zej, zek, zel, zem, zen, zeo, zep, zeq, zer, fa_0, fa_1, zes, bd_0, bd_2, zet, fd_1, zeu, Nat.zero_add, encA, b_neqV, p0, Bool.not_true, p1, den_loop]
    refine loop_ends (X := Nat) (fun i env s => env 2 = .ptr 2 1 0 ∧ env 3 = .ptr 3 1 0 ∧ s 2 = ⟨1, .buf [.bool b1, encL b l]⟩ ∧ s 3 = ⟨1, .buf [.bool b2, encL b' m]⟩ ∧ env 5 = .int .i64 (i : Int) ∧ i ≤ l.length ∧ (l.drop i = m.drop i ↔ l = m)) (fun i => l.length - i) (fun _ => (.tree (.bool (decide (l = m))), [[], []])) ?_ n 0 _ _ (by omega) ⟨(by first | (simp only [zfi, ↓reduceIte, Nat.reduceEqDiff]; done) | (simp only [zfi, ↓reduceIte, Nat.reduceEqDiff]; rfl)), (by first | (simp only [zfi, ↓reduceIte, Nat.reduceEqDiff]; done) | (simp only [zfi, ↓reduceIte, Nat.reduceEqDiff]; rfl)), (by first | (simp only [zfi, ↓reduceIte, Nat.reduceEqDiff]; done) | (simp only [zfi, ↓reduceIte, Nat.reduceEqDiff]; rfl)), (by first | (simp only [zfi, ↓reduceIte, Nat.reduceEqDiff]; done) | (simp only [zfi, ↓reduceIte, Nat.reduceEqDiff]; rfl)), (by first | (simp only [zfi, ↓reduceIte, Nat.reduceEqDiff]; done) | (simp only [zfi, ↓reduceIte, Nat.reduceEqDiff]; rfl)), Nat.zero_le _, Iff.rfl⟩
    intro k i hx ih env s ⟨h0, h1, j0, j1, h5, hi, hd⟩
    by_cases hp : i = l.length
    · have e : l = m := by
        rw [← hd, hp, List.drop_length, hlm, List.drop_length]
      rw [decide_eq_true e]
      have q1 : ¬ ((i : Int) < (l.length : Int)) := by omega
      simp only [zaa, zab, zac, zad, zae, zaf, zag, zah, zai, zaj, zak, zal, zam, zan, zao, zap, zaq, zar, zas, zat, zau, zav, zaw, zax, zay, zaz, zba, zbb, zbc, zbd, zbe, zbf, zbg, zbh, zbi, zbj, zbk, zbl, zbm, zbn, zbo, zbp, zbq, Nat.reduceBEq, Bool.or_self, Bool.or_false, Bool.or_true, Bool.and_true, Bool.and_false, Bool.true_and, Bool.false_and, Option.isNone_none, Option.isNone_some, Option.isSome_some, Option.isSome_none, zbr, zbs, zbt, zbu, zbv, zbw, zbx, zby, zbz, zca, zcb, zcc, zcd, zce, zcf, zcg, zch, zci, zcj, zck, zcl, zcm, zcn, zco, zcp, zcq, zcr, own0, zcs, zct, zcu, zcv, zcw, zcx, zcy, zcz, zda, zdb, zdc, zdd, zde, zdf, zdg, zdh, zdi, zdj, zdk, zdl, zdm, zdn, zdo, zdp, zdq, zdr, zds, zdt, zdu, Option.getD_some, Option.getD_none, zfb, zfc, zfd, zfe, zff, zfg, zfh, zfi, Option.map_some, Option.map_none, Option.bind_some, List.map_cons, List.map_nil, List.cons_append, List.nil_append, ↓reduceIte, Nat.reduceEqDiff, Nat.reduceAdd, decide_true, decide_false, Bool.true_eq_false, Bool.false_eq_true, zdv, zdw, zdx, zdy, zdz, zea, zeb, zec, ia22, ld31, zed, zee, zef, zeg, zeh, zei, zej, zek, zel, zem, zen, zeo, zep, zeq, zer, fa_0, fa_1, zes, bd_0, bd_2, zet, fd_1, zeu, Nat.zero_add, h0, h1, j0, j1, h5, q1]
      exact finish_b _ _ _ _ _ _ _ (by first | (simp only [zfi, ↓reduceIte, Nat.reduceEqDiff]; done) | (simp only [zfi, ↓reduceIte, Nat.reduceEqDiff]; rfl)) rfl
    · have q1 : (i : Int) < (l.length : Int) := by omega
      have q2 : (0 : Int) ≤ (i : Int) := by omega
      have q3 : i < l.length := by omega
      have q4 : i < m.length := by omega
      have q5 : (i : Int) < (m.length : Int) := by omega
      have f4 := i_add Tryd.prog 3 (i : Int) 1 (by omega) (by omega)
      have dl : l.drop i = l.getD i 0 :: l.drop (i + 1) := by rw [List.getD_eq_getElem?_getD, List.getElem?_eq_getElem q3]; exact List.drop_eq_getElem_cons q3
      have dm : m.drop i = m.getD i 0 :: m.drop (i + 1) := by rw [List.getD_eq_getElem?_getD, List.getElem?_eq_getElem q4]; exact List.drop_eq_getElem_cons q4
      rw [dl, dm, List.cons.injEq] at hd
      by_cases g : l.getD i 0 = m.getD i 0
      · have p2 : ((l.getD i 0 : Int) != (m.getD i 0 : Int)) = false := by rw [g]; exact bne_self_eq_false _
        simp only [zaa, zab, zac, zad, zae, zaf, zag, zah, zai, zaj, zak, zal, zam, zan, zao, zap, zaq, zar, zas, zat, zau, zav, zaw, zax, zay, zaz, zba, zbb, zbc, zbd, zbe, zbf, zbg, zbh, zbi, zbj, zbk, zbl, zbm, zbn, zbo, zbp, zbq, Nat.reduceBEq, Bool.or_self, Bool.or_false, Bool.or_true, Bool.and_true, Bool.and_false, Bool.true_and, Bool.false_and, Option.isNone_none, Option.isNone_some, Option.isSome_some, Option.isSome_none, zbr, zbs, zbt, zbu, zbv, zbw, zbx, zby, zbz, zca, zcb, zcc, zcd, zce, zcf, zcg, zch, zci, zcj, zck, zcl, zcm, zcn, zco, zcp, zcq, zcr, own0, zcs, zct, zcu, zcv, zcw, zcx, zcy, zcz, zda, zdb, zdc, zdd, zde, zdf, zdg, zdh, zdi, zdj, zdk, zdl, zdm, zdn, zdo, zdp, zdq, zdr, zds, zdt, zdu, Option.getD_some, Option.getD_none, zfb, zfc, zfd, zfe, zff, zfg, zfh, zfi, Option.map_some, Option.map_none, Option.bind_some, List.map_cons, List.map_nil, List.cons_append, List.nil_append, ↓reduceIte, Nat.reduceEqDiff, Nat.reduceAdd, decide_true, decide_false, Bool.true_eq_false, Bool.false_eq_true, zdv, zdw, zdx, zdy, zdz, zea, zeb, zec, ia22, ld31, zed, zee, zef, zeg, zeh, zei, zej, zek, zel, zem, zen, zeo, zep, zeq, zer, fa_0, fa_1, zes, bd_0, bd_2, zet, fd_1, zeu, Nat.zero_add, h0, h1, j0, j1, h5, q1, q2, q3, q4, q5, Int.toNat_natCast, p2, f4]
        exact ih (i + 1) _ _ (by omega) rfl ⟨(by first | (simp only [zfi, ↓reduceIte, Nat.reduceEqDiff, h0]; done) | (simp only [zfi, ↓reduceIte, Nat.reduceEqDiff, h0]; rfl)), (by first | (simp only [zfi, ↓reduceIte, Nat.reduceEqDiff, h1]; done) | (simp only [zfi, ↓reduceIte, Nat.reduceEqDiff, h1]; rfl)), (by first | (simp only [zfi, ↓reduceIte, Nat.reduceEqDiff, j0]; done) | (simp only [zfi, ↓reduceIte, Nat.reduceEqDiff, j0]; rfl)), (by first | (simp only [zfi, ↓reduceIte, Nat.reduceEqDiff, j1]; done) | (simp only [zfi, ↓reduceIte, Nat.reduceEqDiff, j1]; rfl)), (by first | (simp only [zfi, ↓reduceIte, Nat.reduceEqDiff]; done) | (simp only [zfi, ↓reduceIte, Nat.reduceEqDiff]; rfl)), by omega, by rw [← hd]; simp only [g, true_and]⟩
      · have p2 : ((l.getD i 0 : Int) != (m.getD i 0 : Int)) = true := by rw [bne_iff_ne]; omega
        have hne : ¬ l = m := fun e => g (hd.mpr e).1
        rw [decide_eq_false hne]
        simp only [zaa, zab, zac, zad, zae, zaf, zag, zah, zai, zaj, zak, zal, zam, zan, zao, zap, zaq, zar, zas, zat, zau, zav, zaw, zax, zay, zaz, zba, zbb, zbc, zbd, zbe, zbf, zbg, zbh, zbi, zbj, zbk, zbl, zbm, zbn, zbo, zbp, zbq, Nat.reduceBEq, Bool.or_self, Bool.or_false, Bool.or_true, Bool.and_true, Bool.and_false, Bool.true_and, Bool.false_and, Option.isNone_none, Option.isNone_some, Option.isSome_some, Option.isSome_none, zbr, zbs, zbt, zbu, zbv, zbw, zbx, zby, zbz, zca, zcb, zcc, zcd, zce, zcf, zcg, zch, zci, zcj, zck, zcl, zcm, zcn, zco, zcp, zcq, zcr, own0, zcs, zct, zcu, zcv, zcw, zcx, zcy, zcz, zda, zdb, zdc, zdd, zde, zdf, zdg, zdh, zdi, zdj, zdk, zdl, zdm, zdn, zdo, zdp, zdq, zdr, zds, zdt, zdu, Option.getD_some, Option.getD_none, zfb, zfc, zfd, zfe, zff, zfg, zfh, zfi, Option.map_some, Option.map_none, Option.bind_some, List.map_cons, List.map_nil, List.cons_append, List.nil_append, ↓reduceIte, Nat.reduceEqDiff, Nat.reduceAdd, decide_true, decide_false, Bool.true_eq_false, Bool.false_eq_true, zdv, zdw, zdx, zdy, zdz, zea, zeb, zec, ia22, ld31, zed, zee, zef, zeg, zeh, zei, zej, zek, zel, zem, zen, zeo, zep, zeq, zer, fa_0, fa_1, zes, bd_0, bd_2, zet, fd_1, zeu, Nat.zero_add, h0, h1, j0, j1, h5, q1, q2, q3, q4, q5, Int.toNat_natCast, p2, f4]
        exact finish_b _ _ _ _ _ _ _ (by first | (simp only [zfi, ↓reduceIte, Nat.reduceEqDiff]; done) | (simp only [zfi, ↓reduceIte, Nat.reduceEqDiff]; rfl)) rfl
  · have p1 : ((l.length : Int) != (m.length : Int)) = true := by rw [bne_iff_ne]; omega
    rw [decide_eq_false (fun e => hlm (by rw [e]))]
    simp only [zaa, zab, zac, zad, zae, zaf, zag, zah, zai, zaj, zak, zal, zam, zan, zao, zap, zaq, zar, zas, zat, zau, zav, zaw, zax, zay, zaz, zba, zbb, zbc, zbd, zbe, zbf, zbg, zbh, zbi, zbj, zbk, zbl, zbm, zbn, zbo, zbp, zbq, Nat.reduceBEq, Bool.or_self, Bool.or_false, Bool.or_true, Bool.and_true, Bool.and_false, Bool.true_and, Bool.false_and, Option.isNone_none, Option.isNone_some, Option.isSome_some, Option.isSome_none, zbr, zbs, zbt, zbu, zbv, zbw, zbx, zby, zbz, zca, zcb, zcc, zcd, zce, zcf, zcg, zch, zci, zcj, zck, zcl, zcm, zcn, zco, zcp, zcq, zcr, own0, zcs, zct, zcu, zcv, zcw, zcx, zcy, zcz, zda, zdb, zdc, zdd, zde, zdf, zdg, zdh, zdi, zdj, zdk, zdl, zdm, zdn, zdo, zdp, zdq, zdr, zds, zdt, zdu, Option.getD_some, Option.getD_none, zfb, zfc, zfd, zfe, zff, zfg, zfh, zfi, Option.map_some, Option.map_none, Option.bind_some, List.map_cons, List.map_nil, List.cons_append, List.nil_append, ↓reduceIte, Nat.reduceEqDiff, Nat.reduceAdd, decide_true, decide_false, Bool.true_eq_false, Bool.false_eq_true, env0, List.getElem?_cons_zero, List.getElem?_cons_succ, zdv, zdw, zdx, zdy, zdz, zea, zeb, zec, ia22, ld31, zed, zee, zef, zeg, zeh, zei, zej, zek, zel, zem, zen, zeo, zep, zeq, zer, fa_0, fa_1, zes, bd_0, bd_2, zet, fd_1, zeu, Nat.zero_add, encA, b_neqV, p0, Bool.not_true, p1]
    exact finish_b _ _ _ _ _ _ _ (by first | (simp only [zfi, ↓reduceIte, Nat.reduceEqDiff]; done) | (simp only [zfi, ↓reduceIte, Nat.reduceEqDiff]; rfl)) rfl
noncomputable def codeRS : Code := (Tryd.f12.body).getD .skip
noncomputable def rs20 : Code := seqR (seqR (seqR (seqR codeRS)))
set_option maxHeartbeats 32000000 in
theorem rsameK_eq (n D : Nat) (a b : T) (ha : (kidsT a).length < n) (ha2 : (kidsT a).length ≤ 1000000)
    (h : ∀ i j x y q r, (kidsT a).drop i = x :: q → (kidsT b).drop j = y :: r → evalFn Tryd.prog cfg0 n D 12 [.tree (encT x), .tree (encT y)] = some (.tree (.bool (sameT x y)), [[], []])) (env : Env) (s : St) (e2 : env 2 = .ptr 2 1 0) (e3 : env 3 = .ptr 3 1 0) (j2 : s 2 = ⟨1, .buf (cellsT a)⟩) (j3 : s 3 = ⟨1, .buf (cellsT b)⟩) (e5 : env 5 = .bool true) :
    den Tryd.prog cfg0 (evalFn Tryd.prog cfg0 n D) n rs20 (finK Tryd.prog (cfg0.keep 12) [.tree (encT a), .tree (encT b)] Tryd.f12.results) env s = some (.tree (.bool (sameK (kidsT a) (kidsT b))), [[], []]) := by
  obtain ⟨k, n1, lg, l, s1, i1, kg, us⟩ := a
  obtain ⟨k', n2, lg', l', s', i2, kg', vs⟩ := b
  simp only [kidsT] at ha ha2 h ⊢
  simp only [cellsT] at j2 j3
  by_cases hl : us.length = vs.length
  case neg =>
    have p1 : ((us.length : Int) != (vs.length : Int)) = true := by rw [bne_iff_ne]; omega
    rw [sameK_len us vs hl]
    simp only [rs20, codeRS, seqR, Tryd.f12, Option.getD_some, zaa, zab, zac, zad, zae, zaf, zag, zah, zai, zaj, zak, zal, zam, zan, zao, zap, zaq, zar, zas, zat, zau, zav, zaw, zax, zay, zaz, zba, zbb, zbc, zbd, zbe, zbf, zbg, zbh, zbi, zbj, zbk, zbl, zbm, zbn, zbo, zbp, zbq, Nat.reduceBEq, Bool.or_self, Bool.or_false, Bool.or_true, Bool.and_true, Bool.and_false, Bool.true_and, Bool.false_and, Option.isNone_none, Option.isNone_some, Option.isSome_some, Option.isSome_none, zbr, zbs, zbt, zbu, zbv, zbw, zbx, zby, zbz, zca, zcb, zcc, zcd, zce, zcf, zcg, zch, zci, zcj, zck, zcl, zcm, zcn, zco, zcp, zcq, zcr, own0, zcs, zct, zcu, zcv, zcw, zcx, zcy, zcz, zda, zdb, zdc, zdd, zde, zdf, zdg, zdh, zdi, zdj, zdk, zdl, zdm, zdn, zdo, zdp, zdq, zdr, zds, zdt, zdu, Option.getD_some, Option.getD_none, zfb, zfc, zfd, zfe, zff, zfg, zfh, zfi, Option.map_some, Option.map_none, Option.bind_some, List.map_cons, List.map_nil, List.cons_append, List.nil_append, ↓reduceIte, Nat.reduceEqDiff, Nat.reduceAdd, decide_true, decide_false, Bool.true_eq_false, Bool.false_eq_true, zdv, zdw, zdx, zdy, zdz, zea, zeb, zec, ia22, ld31, zed, zee, zef, zeg, zeh, zei, zej, zek, zel, zem, zen, zeo, zep, zeq, zer, fa_0, fa_1, zes, bd_0, bd_2, zet, fd_1, zeu, Nat.zero_add, e2, e3, e5, j2, j3, faT_4, ldT_4, Nat.reduceAdd, unA_not', Bool.not_true, lenTk, i_neqV, p1]
    exact finish_b _ _ _ _ _ _ _ (by first | (simp only [zfi, ↓reduceIte, Nat.reduceEqDiff]; done) | (simp only [zfi, ↓reduceIte, Nat.reduceEqDiff]; rfl)) rfl
  have p1 : ((us.length : Int) != (vs.length : Int)) = false := by rw [hl]; exact bne_self_eq_false _
  simp only [rs20, codeRS, seqR, Tryd.f12, Option.getD_some, zaa, zab, zac, zad, zae, zaf, zag, zah, zai, zaj, zak, zal, zam, zan, zao, zap, zaq, zar, zas, zat, zau, zav, zaw, zax, zay, zaz, zba, zbb, zbc, zbd, zbe, zbf, zbg, zbh, zbi, zbj, zbk, zbl, zbm, zbn, zbo, zbp, zbq, Nat.reduceBEq, Bool.or_self, Bool.or_false, Bool.or_true, Bool.and_true, Bool.and_false, Bool.true_and, Bool.false_and, Option.isNone_none, Option.isNone_some, Option.isSome_some, Option.isSome_none, zbr, zbs, zbt, zbu, zbv, zbw, zbx, zby, zbz, zca, zcb, zcc, zcd, zce, zcf, zcg, zch, zci, zcj, zck, zcl, zcm, zcn, zco, zcp, zcq, zcr, own0, zcs, zct, zcu, zcv, zcw, zcx, zcy, zcz, zda, zdb, zdc, zdd, zde, zdf, zdg, zdh, zdi, zdj, zdk, zdl, zdm, zdn, zdo, zdp, zdq, zdr, zds, zdt, zdu, Option.getD_some, Option.getD_none, zfb, zfc, zfd, zfe, zff, zfg, zfh, zfi, Option.map_some, Option.map_none, Option.bind_some, List.map_cons, List.map_nil, List.cons_append, List.nil_append, ↓reduceIte, Nat.reduceEqDiff, Nat.reduceAdd, decide_true, decide_false, Bool.true_eq_false, Bool.false_eq_true, zdv, zdw, zdx, zdy, zdz, zea, zeb, zec, ia22, ld31, zed, zee, zef, zeg, zeh, zei, zej, zek, zel, zem, zen, zeo, zep, zeq, zer, fa_0, fa_1, zes, bd_0, bd_2, zet, fd_1, zeu, Nat.zero_add, e2, e3, e5, j2, j3, faT_4, ldT_4, Nat.reduceAdd, unA_not', Bool.not_true, lenTk, i_neqV, p1, den_loop]
  refine loop_ends (X := Nat) (fun i env s => env 2 = .ptr 2 1 0 ∧ env 3 = .ptr 3 1 0 ∧ s 2 = ⟨1, .buf (cellsT (.mk k n1 lg l s1 i1 kg us))⟩ ∧ s 3 = ⟨1, .buf (cellsT (.mk k' n2 lg' l' s' i2 kg' vs))⟩ ∧ env 6 = .int .i64 (i : Int) ∧ i ≤ us.length ∧ sameK (us.drop i) (vs.drop i) = sameK us vs) (fun i => us.length - i) (fun _ => (.tree (.bool (sameK us vs)), [[], []])) ?_ n 0 _ _ (by omega) ⟨(by first | (simp only [zfi, ↓reduceIte, Nat.reduceEqDiff, e2]; done) | (simp only [zfi, ↓reduceIte, Nat.reduceEqDiff, e2]; rfl)), (by first | (simp only [zfi, ↓reduceIte, Nat.reduceEqDiff, e3]; done) | (simp only [zfi, ↓reduceIte, Nat.reduceEqDiff, e3]; rfl)), by simp only [cellsT]; exact j2, by simp only [cellsT]; exact j3, (by first | (simp only [zfi, ↓reduceIte, Nat.reduceEqDiff]; done) | (simp only [zfi, ↓reduceIte, Nat.reduceEqDiff]; rfl)), Nat.zero_le _, rfl⟩
  clear e2 e3 j2 j3 e5
  intro rr i hx ih env st ⟨e2, e3, j2, j3, e6, hi, hc⟩
  simp only [cellsT] at j2 j3
  cases hda : us.drop i with
  | nil =>
    have hil : i = us.length := by have := congrArg List.length hda; simp only [List.length_drop, List.length_nil] at this; omega
    have q1 : ¬ ((i : Int) < (us.length : Int)) := by omega
    have hdb : vs.drop i = [] := List.drop_eq_nil_of_le (by omega)
    rw [hda, hdb] at hc
    simp only [sameK] at hc
    rw [← hc]
    simp only [zaa, zab, zac, zad, zae, zaf, zag, zah, zai, zaj, zak, zal, zam, zan, zao, zap, zaq, zar, zas, zat, zau, zav, zaw, zax, zay, zaz, zba, zbb, zbc, zbd, zbe, zbf, zbg, zbh, zbi, zbj, zbk, zbl, zbm, zbn, zbo, zbp, zbq, Nat.reduceBEq, Bool.or_self, Bool.or_false, Bool.or_true, Bool.and_true, Bool.and_false, Bool.true_and, Bool.false_and, Option.isNone_none, Option.isNone_some, Option.isSome_some, Option.isSome_none, zbr, zbs, zbt, zbu, zbv, zbw, zbx, zby, zbz, zca, zcb, zcc, zcd, zce, zcf, zcg, zch, zci, zcj, zck, zcl, zcm, zcn, zco, zcp, zcq, zcr, own0, zcs, zct, zcu, zcv, zcw, zcx, zcy, zcz, zda, zdb, zdc, zdd, zde, zdf, zdg, zdh, zdi, zdj, zdk, zdl, zdm, zdn, zdo, zdp, zdq, zdr, zds, zdt, zdu, Option.getD_some, Option.getD_none, zfb, zfc, zfd, zfe, zff, zfg, zfh, zfi, Option.map_some, Option.map_none, Option.bind_some, List.map_cons, List.map_nil, List.cons_append, List.nil_append, ↓reduceIte, Nat.reduceEqDiff, Nat.reduceAdd, decide_true, decide_false, Bool.true_eq_false, Bool.false_eq_true, zdv, zdw, zdx, zdy, zdz, zea, zeb, zec, ia22, ld31, zed, zee, zef, zeg, zeh, zei, zej, zek, zel, zem, zen, zeo, zep, zeq, zer, fa_0, fa_1, zes, bd_0, bd_2, zet, fd_1, zeu, Nat.zero_add, e2, e3, j2, j3, e6, faT_4, ldT_4, Nat.reduceAdd, lenTk, q1]
    exact finish_b _ _ _ _ _ _ _ (by first | (simp only [zfi, ↓reduceIte, Nat.reduceEqDiff]; done) | (simp only [zfi, ↓reduceIte, Nat.reduceEqDiff]; rfl)) rfl
  | cons x q =>
    have hil : i < us.length := by have := congrArg List.length hda; simp only [List.length_drop, List.length_cons] at this; omega
    have hjl : i < vs.length := by omega
    have q1 : (i : Int) < (us.length : Int) := by omega
    have ia := fun st => ia_K st us (gr kg) i hil
    rw [hda] at ia hc
    have ld := fun st => ld_K st x q
    simp only [encT] at ld
    cases hdb : vs.drop i with
    | nil => have := congrArg List.length hdb; simp only [List.length_drop, List.length_nil] at this; omega
    | cons y r =>
      have ib := fun st => ia_K st vs (gr kg') i hjl
      rw [hdb] at ib hc
      have ldb := fun st => ld_K st y r
      simp only [encT] at ldb
      simp only [sameK] at hc
      have cc := callQ_trees (f := 12) (vs := [encT x, encT y]) rfl (h i i x y q r hda hdb)
      simp only [encT] at cc
      have f5 := i_add Tryd.prog 3 (i : Int) 1 (by omega) (by omega)
      cases g : sameT x y with
      | true =>
        rw [g, Bool.true_and] at hc
        rw [g] at cc
        simp only [zaa, zab, zac, zad, zae, zaf, zag, zah, zai, zaj, zak, zal, zam, zan, zao, zap, zaq, zar, zas, zat, zau, zav, zaw, zax, zay, zaz, zba, zbb, zbc, zbd, zbe, zbf, zbg, zbh, zbi, zbj, zbk, zbl, zbm, zbn, zbo, zbp, zbq, Nat.reduceBEq, Bool.or_self, Bool.or_false, Bool.or_true, Bool.and_true, Bool.and_false, Bool.true_and, Bool.false_and, Option.isNone_none, Option.isNone_some, Option.isSome_some, Option.isSome_none, zbr, zbs, zbt, zbu, zbv, zbw, zbx, zby, zbz, zca, zcb, zcc, zcd, zce, zcf, zcg, zch, zci, zcj, zck, zcl, zcm, zcn, zco, zcp, zcq, zcr, own0, zcs, zct, zcu, zcv, zcw, zcx, zcy, zcz, zda, zdb, zdc, zdd, zde, zdf, zdg, zdh, zdi, zdj, zdk, zdl, zdm, zdn, zdo, zdp, zdq, zdr, zds, zdt, zdu, Option.getD_some, Option.getD_none, zfb, zfc, zfd, zfe, zff, zfg, zfh, zfi, Option.map_some, Option.map_none, Option.bind_some, List.map_cons, List.map_nil, List.cons_append, List.nil_append, ↓reduceIte, Nat.reduceEqDiff, Nat.reduceAdd, decide_true, decide_false, Bool.true_eq_false, Bool.false_eq_true, zdv, zdw, zdx, zdy, zdz, zea, zeb, zec, ia22, ld31, zed, zee, zef, zeg, zeh, zei, zej, zek, zel, zem, zen, zeo, zep, zeq, zer, fa_0, fa_1, zes, bd_0, bd_2, zet, fd_1, zeu, Nat.zero_add, e2, e3, j2, j3, e6, faT_4, ldT_4, Nat.reduceAdd, q1, lenTk, ia, ib, ld, ldb, cc, unA_not', Bool.not_true, f5]
        exact ih (i + 1) _ _ (by omega) rfl ⟨(by first | (simp only [zfi, ↓reduceIte, Nat.reduceEqDiff, e2]; done) | (simp only [zfi, ↓reduceIte, Nat.reduceEqDiff, e2]; rfl)), (by first | (simp only [zfi, ↓reduceIte, Nat.reduceEqDiff, e3]; done) | (simp only [zfi, ↓reduceIte, Nat.reduceEqDiff, e3]; rfl)), by simp only [cellsT]; exact j2, by simp only [cellsT]; exact j3, (by first | (simp only [zfi, ↓reduceIte, Nat.reduceEqDiff]; done) | (simp only [zfi, ↓reduceIte, Nat.reduceEqDiff]; rfl)), by omega, by rw [drop_next hda, drop_next hdb]; exact hc⟩
      | false =>
        rw [g, Bool.false_and] at hc
        rw [g] at cc
        rw [← hc]
        simp only [zaa, zab, zac, zad, zae, zaf, zag, zah, zai, zaj, zak, zal, zam, zan, zao, zap, zaq, zar, zas, zat, zau, zav, zaw, zax, zay, zaz, zba, zbb, zbc, zbd, zbe, zbf, zbg, zbh, zbi, zbj, zbk, zbl, zbm, zbn, zbo, zbp, zbq, Nat.reduceBEq, Bool.or_self, Bool.or_false, Bool.or_true, Bool.and_true, Bool.and_false, Bool.true_and, Bool.false_and, Option.isNone_none, Option.isNone_some, Option.isSome_some, Option.isSome_none, zbr, zbs, zbt, zbu, zbv, zbw, zbx, zby, zbz, zca, zcb, zcc, zcd, zce, zcf, zcg, zch, zci, zcj, zck, zcl, zcm, zcn, zco, zcp, zcq, zcr, own0, zcs, zct, zcu, zcv, zcw, zcx, zcy, zcz, zda, zdb, zdc, zdd, zde, zdf, zdg, zdh, zdi, zdj, zdk, zdl, zdm, zdn, zdo, zdp, zdq, zdr, zds, zdt, zdu, Option.getD_some, Option.getD_none, zfb, zfc, zfd, zfe, zff, zfg, zfh, zfi, Option.map_some, Option.map_none, Option.bind_some, List.map_cons, List.map_nil, List.cons_append, List.nil_append, ↓reduceIte, Nat.reduceEqDiff, Nat.reduceAdd, decide_true, decide_false, Bool.true_eq_false, Bool.false_eq_true, zdv, zdw, zdx, zdy, zdz, zea, zeb, zec, ia22, ld31, zed, zee, zef, zeg, zeh, zei, zej, zek, zel, zem, zen, zeo, zep, zeq, zer, fa_0, fa_1, zes, bd_0, bd_2, zet, fd_1, zeu, Nat.zero_add, e2, e3, j2, j3, e6, faT_4, ldT_4, Nat.reduceAdd, q1, lenTk, ia, ib, ld, ldb, cc, unA_not', Bool.not_false, f5]
        exact finish_b _ _ _ _ _ _ _ (by first | (simp only [zfi, ↓reduceIte, Nat.reduceEqDiff]; done) | (simp only [zfi, ↓reduceIte, Nat.reduceEqDiff]; rfl)) rfl
end Go.Ab

/- relictref03.Same of any terms. Conditions: so many limbs, nodes at most. -/
namespace Go.Ab
open Go.Proofs
set_option maxRecDepth 100000
set_option linter.unusedSimpArgs false
set_option maxHeartbeats 32000000 in
theorem rsame_eq (n : Nat) (hn : n ≤ 1000001) : ∀ (d D : Nat) (a0 b0 : T), htT a0 ≤ d → d + 1 ≤ D → fewT n a0 →
    evalFn Tryd.prog cfg0 n D 12 [.tree (encT a0), .tree (encT b0)] = some (.tree (.bool (sameT a0 b0)), [[], []])
  | 0, _, a0, b0, hd, _, hf => by obtain ⟨k, b, lg, l, s, m, kg, ks⟩ := a0; simp only [htT] at hd; omega
  | d + 1, D, a0, b0, hd, hD, hf => by
    obtain ⟨m, rfl⟩ : ∃ m, D = m + 2 := ⟨D - 2, by omega⟩
    have IH := fun a b h1 h2 => rsame_eq n hn d (m + 1) a b h1 (by omega) h2
    rw [evalFn_go _ Tryd.func12 (by unfold Tryd.f12; rfl) (by unfold Tryd.f12; decide) (Nat.le_of_ble_eq_true (by unfold Tryd.f12; rfl)) (by kernel_rfl)]
    have K := rsameK_eq n (m + 1) a0 b0
    obtain ⟨k, n1, lg, l, s, i1, kg, ks⟩ := a0
    obtain ⟨k', n2, lg', l', s', i2, kg', ks'⟩ := b0
    have hf' : l.length < n ∧ ks.length < n ∧ fewK n ks := by simp only [fewT] at hf; exact hf
    have hhk : htK ks ≤ d := by simp only [htT] at hd; omega
    have c1 := fun D st => callA_trees (cfg := cfg0) (d := D) (s := st) (f := 24) (vs := [encA n1 lg l, encA n2 lg' l']) (by cases lg <;> cases lg' <;> rfl) (rsameNum_eq n m n1 n2 lg lg' l l' hf'.1 (by omega))
    simp only [encA] at c1
    simp only [kidsT] at K
    have K := fun env s => K hf'.2.1 (by omega) (fun i j x y q r h1 h2 => IH x y (by have := kids_ht ks i x q h1; omega) (fewK_at _ ks i x q h1 hf'.2.2)) env s
    simp only [encT] at K
    have iq : (i1 == i2) = decide (i1 = i2) := intEq _ _
    by_cases hk : k = k'
    case neg =>
      have p1 : (k != k') = true := by rw [bne_iff_ne]; exact hk
      have hr : sameT (.mk k n1 lg l s i1 kg ks) (.mk k' n2 lg' l' s' i2 kg' ks') = false := by first | (simp [sameT, kindT, sgnT, limT, strT, nT, kidsT, hk]; done) | (simp [sameT, kindT, sgnT, limT, strT, nT, kidsT, hk]; rfl)
      rw [hr]
      simp only [zaa, zab, zac, zad, zae, zaf, zag, zah, zai, zaj, zak, zal, zam, zan, zao, zap, zaq, zar, zas, zat, zau, zav, zaw, zax, zay, zaz, zba, zbb, zbc, zbd, zbe, zbf, zbg, zbh, zbi, zbj, zbk, zbl, zbm, zbn, zbo, zbp, zbq, Nat.reduceBEq, Bool.or_self, Bool.or_false, Bool.or_true, Bool.and_true, Bool.and_false, Bool.true_and, Bool.false_and, Option.isNone_none, Option.isNone_some, Option.isSome_some, Option.isSome_none, zbr, zbs, zbt, zbu, zbv, zbw, zbx, zby, zbz, zca, zcb, zcc, zcd, zce, zcf, zcg, zch, zci, zcj, zck, zcl, zcm, zcn, zco, zcp, zcq, zcr, own0, zcs, zct, zcu, zcv, zcw, zcx, zcy, zcz, zda, zdb, zdc, zdd, zde, zdf, zdg, zdh, zdi, zdj, zdk, zdl, zdm, zdn, zdo, zdp, zdq, zdr, zds, zdt, zdu, Option.getD_some, Option.getD_none, zfb, zfc, zfd, zfe, zff, zfg, zfh, zfi, Option.map_some, Option.map_none, Option.bind_some, List.map_cons, List.map_nil, List.cons_append, List.nil_append, ↓reduceIte, Nat.reduceEqDiff, Nat.reduceAdd, decide_true, decide_false, Bool.true_eq_false, Bool.false_eq_true, env0, List.getElem?_cons_zero, List.getElem?_cons_succ, zdv, zdw, zdx, zdy, zdz, zea, zeb, zec, ia22, ld31, zed, zee, zef, zeg, zeh, zei, zej, zek, zel, zem, zen, zeo, zep, zeq, zer, fa_0, fa_1, zes, bd_0, bd_2, zet, fd_1, zeu, Nat.zero_add, encT, cellsT, faT_0, ldT_0, i_neqV, p1]
      exact finish_b _ _ _ _ _ _ _ (by first | (simp only [zfi, ↓reduceIte, Nat.reduceEqDiff]; done) | (simp only [zfi, ↓reduceIte, Nat.reduceEqDiff]; rfl)) rfl
    subst hk
    have p1 : (k != k) = false := bne_self_eq_false _
    by_cases h1 : k = 1
    · subst h1
      have hr : sameT (.mk 1 n1 lg l s i1 kg ks) (.mk 1 n2 lg' l' s' i2 kg' ks') = (decide (n1 = n2) && decide (l = l')) := by first | (simp [sameT, kindT, sgnT, limT, strT, nT, kidsT]; done) | (simp [sameT, kindT, sgnT, limT, strT, nT, kidsT]; rfl)
      rw [hr]
      simp only [zaa, zab, zac, zad, zae, zaf, zag, zah, zai, zaj, zak, zal, zam, zan, zao, zap, zaq, zar, zas, zat, zau, zav, zaw, zax, zay, zaz, zba, zbb, zbc, zbd, zbe, zbf, zbg, zbh, zbi, zbj, zbk, zbl, zbm, zbn, zbo, zbp, zbq, Nat.reduceBEq, Bool.or_self, Bool.or_false, Bool.or_true, Bool.and_true, Bool.and_false, Bool.true_and, Bool.false_and, Option.isNone_none, Option.isNone_some, Option.isSome_some, Option.isSome_none, zbr, zbs, zbt, zbu, zbv, zbw, zbx, zby, zbz, zca, zcb, zcc, zcd, zce, zcf, zcg, zch, zci, zcj, zck, zcl, zcm, zcn, zco, zcp, zcq, zcr, own0, zcs, zct, zcu, zcv, zcw, zcx, zcy, zcz, zda, zdb, zdc, zdd, zde, zdf, zdg, zdh, zdi, zdj, zdk, zdl, zdm, zdn, zdo, zdp, zdq, zdr, zds, zdt, zdu, Option.getD_some, Option.getD_none, zfb, zfc, zfd, zfe, zff, zfg, zfh, zfi, Option.map_some, Option.map_none, Option.bind_some, List.map_cons, List.map_nil, List.cons_append, List.nil_append, ↓reduceIte, Nat.reduceEqDiff, Nat.reduceAdd, decide_true, decide_false, Bool.true_eq_false, Bool.false_eq_true, env0, List.getElem?_cons_zero, List.getElem?_cons_succ, zdv, zdw, zdx, zdy, zdz, zea, zeb, zec, ia22, ld31, zed, zee, zef, zeg, zeh, zei, zej, zek, zel, zem, zen, zeo, zep, zeq, zer, fa_0, fa_1, zes, bd_0, bd_2, zet, fd_1, zeu, Nat.zero_add, encT, cellsT, faT_0, faT_1, faT_2, faT_3, faT_4, ldT_0, ldT_1, ldT_2, ldT_3, ldT_4, Nat.reduceAdd, i_neqV, p1, i_eqlV, Int.reduceBEq, s_eqlS, c1]
      exact finish_b _ _ _ _ _ _ _ (by first | (simp only [zfi, ↓reduceIte, Nat.reduceEqDiff]; done) | (simp only [zfi, ↓reduceIte, Nat.reduceEqDiff]; rfl)) rfl
    have b1 : (k == 1) = false := beq_eq_false_iff_ne.mpr h1
    by_cases h2 : k = 2
    · subst h2
      have hr : sameT (.mk 2 n1 lg l s i1 kg ks) (.mk 2 n2 lg' l' s' i2 kg' ks') = (decide (s = s')) := by first | (simp [sameT, kindT, sgnT, limT, strT, nT, kidsT]; done) | (simp [sameT, kindT, sgnT, limT, strT, nT, kidsT]; rfl)
      rw [hr]
      simp only [zaa, zab, zac, zad, zae, zaf, zag, zah, zai, zaj, zak, zal, zam, zan, zao, zap, zaq, zar, zas, zat, zau, zav, zaw, zax, zay, zaz, zba, zbb, zbc, zbd, zbe, zbf, zbg, zbh, zbi, zbj, zbk, zbl, zbm, zbn, zbo, zbp, zbq, Nat.reduceBEq, Bool.or_self, Bool.or_false, Bool.or_true, Bool.and_true, Bool.and_false, Bool.true_and, Bool.false_and, Option.isNone_none, Option.isNone_some, Option.isSome_some, Option.isSome_none, zbr, zbs, zbt, zbu, zbv, zbw, zbx, zby, zbz, zca, zcb, zcc, zcd, zce, zcf, zcg, zch, zci, zcj, zck, zcl, zcm, zcn, zco, zcp, zcq, zcr, own0, zcs, zct, zcu, zcv, zcw, zcx, zcy, zcz, zda, zdb, zdc, zdd, zde, zdf, zdg, zdh, zdi, zdj, zdk, zdl, zdm, zdn, zdo, zdp, zdq, zdr, zds, zdt, zdu, Option.getD_some, Option.getD_none, zfb, zfc, zfd, zfe, zff, zfg, zfh, zfi, Option.map_some, Option.map_none, Option.bind_some, List.map_cons, List.map_nil, List.cons_append, List.nil_append, ↓reduceIte, Nat.reduceEqDiff, Nat.reduceAdd, decide_true, decide_false, Bool.true_eq_false, Bool.false_eq_true, env0, List.getElem?_cons_zero, List.getElem?_cons_succ, zdv, zdw, zdx, zdy, zdz, zea, zeb, zec, ia22, ld31, zed, zee, zef, zeg, zeh, zei, zej, zek, zel, zem, zen, zeo, zep, zeq, zer, fa_0, fa_1, zes, bd_0, bd_2, zet, fd_1, zeu, Nat.zero_add, encT, cellsT, faT_0, faT_1, faT_2, faT_3, faT_4, ldT_0, ldT_1, ldT_2, ldT_3, ldT_4, Nat.reduceAdd, i_neqV, p1, i_eqlV, Int.reduceBEq, s_eqlS, strEq]
      exact finish_b _ _ _ _ _ _ _ (by first | (simp only [zfi, ↓reduceIte, Nat.reduceEqDiff]; done) | (simp only [zfi, ↓reduceIte, Nat.reduceEqDiff]; rfl)) rfl
    have b2 : (k == 2) = false := beq_eq_false_iff_ne.mpr h2
    by_cases h6 : k = 6
    · subst h6
      have hr : sameT (.mk 6 n1 lg l s i1 kg ks) (.mk 6 n2 lg' l' s' i2 kg' ks') = (decide (s = s')) := by first | (simp [sameT, kindT, sgnT, limT, strT, nT, kidsT]; done) | (simp [sameT, kindT, sgnT, limT, strT, nT, kidsT]; rfl)
      rw [hr]
      simp only [zaa, zab, zac, zad, zae, zaf, zag, zah, zai, zaj, zak, zal, zam, zan, zao, zap, zaq, zar, zas, zat, zau, zav, zaw, zax, zay, zaz, zba, zbb, zbc, zbd, zbe, zbf, zbg, zbh, zbi, zbj, zbk, zbl, zbm, zbn, zbo, zbp, zbq, Nat.reduceBEq, Bool.or_self, Bool.or_false, Bool.or_true, Bool.and_true, Bool.and_false, Bool.true_and, Bool.false_and, Option.isNone_none, Option.isNone_some, Option.isSome_some, Option.isSome_none, zbr, zbs, zbt, zbu, zbv, zbw, zbx, zby, zbz, zca, zcb, zcc, zcd, zce, zcf, zcg, zch, zci, zcj, zck, zcl, zcm, zcn, zco, zcp, zcq, zcr, own0, zcs, zct, zcu, zcv, zcw, zcx, zcy, zcz, zda, zdb, zdc, zdd, zde, zdf, zdg, zdh, zdi, zdj, zdk, zdl, zdm, zdn, zdo, zdp, zdq, zdr, zds, zdt, zdu, Option.getD_some, Option.getD_none, zfb, zfc, zfd, zfe, zff, zfg, zfh, zfi, Option.map_some, Option.map_none, Option.bind_some, List.map_cons, List.map_nil, List.cons_append, List.nil_append, ↓reduceIte, Nat.reduceEqDiff, Nat.reduceAdd, decide_true, decide_false, Bool.true_eq_false, Bool.false_eq_true, env0, List.getElem?_cons_zero, List.getElem?_cons_succ, zdv, zdw, zdx, zdy, zdz, zea, zeb, zec, ia22, ld31, zed, zee, zef, zeg, zeh, zei, zej, zek, zel, zem, zen, zeo, zep, zeq, zer, fa_0, fa_1, zes, bd_0, bd_2, zet, fd_1, zeu, Nat.zero_add, encT, cellsT, faT_0, faT_1, faT_2, faT_3, faT_4, ldT_0, ldT_1, ldT_2, ldT_3, ldT_4, Nat.reduceAdd, i_neqV, p1, i_eqlV, Int.reduceBEq, s_eqlS, strEq]
      exact finish_b _ _ _ _ _ _ _ (by first | (simp only [zfi, ↓reduceIte, Nat.reduceEqDiff]; done) | (simp only [zfi, ↓reduceIte, Nat.reduceEqDiff]; rfl)) rfl
    have b6 : (k == 6) = false := beq_eq_false_iff_ne.mpr h6
    by_cases h8 : k = 8
    · subst h8
      have hr : sameT (.mk 8 n1 lg l s i1 kg ks) (.mk 8 n2 lg' l' s' i2 kg' ks') = (decide (s = s') && decide (i1 = i2)) := by first | (simp [sameT, kindT, sgnT, limT, strT, nT, kidsT]; done) | (simp [sameT, kindT, sgnT, limT, strT, nT, kidsT]; rfl)
      rw [hr]
      by_cases g : s = s'
      · have g' : (s == s') = true := beq_iff_eq.mpr g
        rw [decide_eq_true g, Bool.true_and]
        simp only [zaa, zab, zac, zad, zae, zaf, zag, zah, zai, zaj, zak, zal, zam, zan, zao, zap, zaq, zar, zas, zat, zau, zav, zaw, zax, zay, zaz, zba, zbb, zbc, zbd, zbe, zbf, zbg, zbh, zbi, zbj, zbk, zbl, zbm, zbn, zbo, zbp, zbq, Nat.reduceBEq, Bool.or_self, Bool.or_false, Bool.or_true, Bool.and_true, Bool.and_false, Bool.true_and, Bool.false_and, Option.isNone_none, Option.isNone_some, Option.isSome_some, Option.isSome_none, zbr, zbs, zbt, zbu, zbv, zbw, zbx, zby, zbz, zca, zcb, zcc, zcd, zce, zcf, zcg, zch, zci, zcj, zck, zcl, zcm, zcn, zco, zcp, zcq, zcr, own0, zcs, zct, zcu, zcv, zcw, zcx, zcy, zcz, zda, zdb, zdc, zdd, zde, zdf, zdg, zdh, zdi, zdj, zdk, zdl, zdm, zdn, zdo, zdp, zdq, zdr, zds, zdt, zdu, Option.getD_some, Option.getD_none, zfb, zfc, zfd, zfe, zff, zfg, zfh, zfi, Option.map_some, Option.map_none, Option.bind_some, List.map_cons, List.map_nil, List.cons_append, List.nil_append, ↓reduceIte, Nat.reduceEqDiff, Nat.reduceAdd, decide_true, decide_false, Bool.true_eq_false, Bool.false_eq_true, env0, List.getElem?_cons_zero, List.getElem?_cons_succ, zdv, zdw, zdx, zdy, zdz, zea, zeb, zec, ia22, ld31, zed, zee, zef, zeg, zeh, zei, zej, zek, zel, zem, zen, zeo, zep, zeq, zer, fa_0, fa_1, zes, bd_0, bd_2, zet, fd_1, zeu, Nat.zero_add, encT, cellsT, faT_0, faT_1, faT_2, faT_3, faT_4, ldT_0, ldT_1, ldT_2, ldT_3, ldT_4, Nat.reduceAdd, i_neqV, p1, i_eqlV, Int.reduceBEq, s_eqlS, g', iq]
        exact finish_b _ _ _ _ _ _ _ (by first | (simp only [zfi, ↓reduceIte, Nat.reduceEqDiff]; done) | (simp only [zfi, ↓reduceIte, Nat.reduceEqDiff]; rfl)) rfl
      · have g' : (s == s') = false := beq_eq_false_iff_ne.mpr g
        rw [decide_eq_false g, Bool.false_and]
        simp only [zaa, zab, zac, zad, zae, zaf, zag, zah, zai, zaj, zak, zal, zam, zan, zao, zap, zaq, zar, zas, zat, zau, zav, zaw, zax, zay, zaz, zba, zbb, zbc, zbd, zbe, zbf, zbg, zbh, zbi, zbj, zbk, zbl, zbm, zbn, zbo, zbp, zbq, Nat.reduceBEq, Bool.or_self, Bool.or_false, Bool.or_true, Bool.and_true, Bool.and_false, Bool.true_and, Bool.false_and, Option.isNone_none, Option.isNone_some, Option.isSome_some, Option.isSome_none, zbr, zbs, zbt, zbu, zbv, zbw, zbx, zby, zbz, zca, zcb, zcc, zcd, zce, zcf, zcg, zch, zci, zcj, zck, zcl, zcm, zcn, zco, zcp, zcq, zcr, own0, zcs, zct, zcu, zcv, zcw, zcx, zcy, zcz, zda, zdb, zdc, zdd, zde, zdf, zdg, zdh, zdi, zdj, zdk, zdl, zdm, zdn, zdo, zdp, zdq, zdr, zds, zdt, zdu, Option.getD_some, Option.getD_none, zfb, zfc, zfd, zfe, zff, zfg, zfh, zfi, Option.map_some, Option.map_none, Option.bind_some, List.map_cons, List.map_nil, List.cons_append, List.nil_append, ↓reduceIte, Nat.reduceEqDiff, Nat.reduceAdd, decide_true, decide_false, Bool.true_eq_false, Bool.false_eq_true, env0, List.getElem?_cons_zero, List.getElem?_cons_succ, zdv, zdw, zdx, zdy, zdz, zea, zeb, zec, ia22, ld31, zed, zee, zef, zeg, zeh, zei, zej, zek, zel, zem, zen, zeo, zep, zeq, zer, fa_0, fa_1, zes, bd_0, bd_2, zet, fd_1, zeu, Nat.zero_add, encT, cellsT, faT_0, faT_1, faT_2, faT_3, faT_4, ldT_0, ldT_1, ldT_2, ldT_3, ldT_4, Nat.reduceAdd, i_neqV, p1, i_eqlV, Int.reduceBEq, s_eqlS, g', iq]
        exact finish_b _ _ _ _ _ _ _ (by first | (simp only [zfi, ↓reduceIte, Nat.reduceEqDiff]; done) | (simp only [zfi, ↓reduceIte, Nat.reduceEqDiff]; rfl)) rfl
    have b8 : (k == 8) = false := beq_eq_false_iff_ne.mpr h8
    by_cases h9 : k = 9
    · subst h9
      have hr : sameT (.mk 9 n1 lg l s i1 kg ks) (.mk 9 n2 lg' l' s' i2 kg' ks') = (decide (i1 = i2)) := by first | (simp [sameT, kindT, sgnT, limT, strT, nT, kidsT]; done) | (simp [sameT, kindT, sgnT, limT, strT, nT, kidsT]; rfl)
      rw [hr]
      simp only [zaa, zab, zac, zad, zae, zaf, zag, zah, zai, zaj, zak, zal, zam, zan, zao, zap, zaq, zar, zas, zat, zau, zav, zaw, zax, zay, zaz, zba, zbb, zbc, zbd, zbe, zbf, zbg, zbh, zbi, zbj, zbk, zbl, zbm, zbn, zbo, zbp, zbq, Nat.reduceBEq, Bool.or_self, Bool.or_false, Bool.or_true, Bool.and_true, Bool.and_false, Bool.true_and, Bool.false_and, Option.isNone_none, Option.isNone_some, Option.isSome_some, Option.isSome_none, zbr, zbs, zbt, zbu, zbv, zbw, zbx, zby, zbz, zca, zcb, zcc, zcd, zce, zcf, zcg, zch, zci, zcj, zck, zcl, zcm, zcn, zco, zcp, zcq, zcr, own0, zcs, zct, zcu, zcv, zcw, zcx, zcy, zcz, zda, zdb, zdc, zdd, zde, zdf, zdg, zdh, zdi, zdj, zdk, zdl, zdm, zdn, zdo, zdp, zdq, zdr, zds, zdt, zdu, Option.getD_some, Option.getD_none, zfb, zfc, zfd, zfe, zff, zfg, zfh, zfi, Option.map_some, Option.map_none, Option.bind_some, List.map_cons, List.map_nil, List.cons_append, List.nil_append, ↓reduceIte, Nat.reduceEqDiff, Nat.reduceAdd, decide_true, decide_false, Bool.true_eq_false, Bool.false_eq_true, env0, List.getElem?_cons_zero, List.getElem?_cons_succ, zdv, zdw, zdx, zdy, zdz, zea, zeb, zec, ia22, ld31, zed, zee, zef, zeg, zeh, zei, zej, zek, zel, zem, zen, zeo, zep, zeq, zer, fa_0, fa_1, zes, bd_0, bd_2, zet, fd_1, zeu, Nat.zero_add, encT, cellsT, faT_0, faT_1, faT_2, faT_3, faT_4, ldT_0, ldT_1, ldT_2, ldT_3, ldT_4, Nat.reduceAdd, i_neqV, p1, i_eqlV, Int.reduceBEq, s_eqlS, iq]
      exact finish_b _ _ _ _ _ _ _ (by first | (simp only [zfi, ↓reduceIte, Nat.reduceEqDiff]; done) | (simp only [zfi, ↓reduceIte, Nat.reduceEqDiff]; rfl)) rfl
    have b9 : (k == 9) = false := beq_eq_false_iff_ne.mpr h9
    by_cases h7 : k = 7
    · subst h7
      have hr : sameT (.mk 7 n1 lg l s i1 kg ks) (.mk 7 n2 lg' l' s' i2 kg' ks') = (decide (i1 = i2) && sameK ks ks') := by first | (simp [sameT, kindT, sgnT, limT, strT, nT, kidsT]; done) | (simp [sameT, kindT, sgnT, limT, strT, nT, kidsT]; rfl)
      rw [hr]
      by_cases g : i1 = i2
      · have g' : (i1 == i2) = true := beq_iff_eq.mpr g
        rw [decide_eq_true g, Bool.true_and]
        simp only [zaa, zab, zac, zad, zae, zaf, zag, zah, zai, zaj, zak, zal, zam, zan, zao, zap, zaq, zar, zas, zat, zau, zav, zaw, zax, zay, zaz, zba, zbb, zbc, zbd, zbe, zbf, zbg, zbh, zbi, zbj, zbk, zbl, zbm, zbn, zbo, zbp, zbq, Nat.reduceBEq, Bool.or_self, Bool.or_false, Bool.or_true, Bool.and_true, Bool.and_false, Bool.true_and, Bool.false_and, Option.isNone_none, Option.isNone_some, Option.isSome_some, Option.isSome_none, zbr, zbs, zbt, zbu, zbv, zbw, zbx, zby, zbz, zca, zcb, zcc, zcd, zce, zcf, zch, zci, zcl, zcm, zco, zcp, zcq, zcr, own0, zcs, zct, zcu, zcv, zcw, zcx, zcy, zcz, zda, zdb, zdc, zdd, zde, zdf, zdg, zdh, zdi, zdj, zdk, zdl, zdm, zdn, zdo, zdp, zdq, zdr, zds, zdt, zdu, Option.getD_some, Option.getD_none, zfb, zfc, zfd, zfe, zff, zfg, zfh, zfi, Option.map_some, Option.map_none, Option.bind_some, List.map_cons, List.map_nil, List.cons_append, List.nil_append, ↓reduceIte, Nat.reduceEqDiff, Nat.reduceAdd, decide_true, decide_false, Bool.true_eq_false, Bool.false_eq_true, env0, List.getElem?_cons_zero, List.getElem?_cons_succ, zdv, zdw, zdx, zdy, zdz, zea, zeb, zec, ia22, ld31, zed, zee, zef, zeg, zeh, zei, zej, zek, zel, zem, zen, zeo, zep, zeq, zer, fa_0, fa_1, zes, bd_0, bd_2, zet, fd_1, zeu, Nat.zero_add, encT, cellsT, faT_0, faT_1, faT_2, faT_3, faT_4, ldT_0, ldT_1, ldT_2, ldT_3, ldT_4, Nat.reduceAdd, i_neqV, p1, i_eqlV, Int.reduceBEq, s_eqlS, zcg, g', den_loop]
        rw [zcj, zcg]
        exact K _ _ (by first | (simp only [zfi, ↓reduceIte, Nat.reduceEqDiff]; done) | (simp only [zfi, ↓reduceIte, Nat.reduceEqDiff]; rfl)) (by first | (simp only [zfi, ↓reduceIte, Nat.reduceEqDiff]; done) | (simp only [zfi, ↓reduceIte, Nat.reduceEqDiff]; rfl)) (by first | (simp only [zfi, ↓reduceIte, Nat.reduceEqDiff]; done) | (simp only [zfi, ↓reduceIte, Nat.reduceEqDiff]; rfl)) (by first | (simp only [zfi, ↓reduceIte, Nat.reduceEqDiff]; done) | (simp only [zfi, ↓reduceIte, Nat.reduceEqDiff]; rfl)) (by first | (simp only [zfi, ↓reduceIte, Nat.reduceEqDiff]; done) | (simp only [zfi, ↓reduceIte, Nat.reduceEqDiff]; rfl))
      · have g' : (i1 == i2) = false := beq_eq_false_iff_ne.mpr g
        rw [decide_eq_false g, Bool.false_and]
        simp only [zaa, zab, zac, zad, zae, zaf, zag, zah, zai, zaj, zak, zal, zam, zan, zao, zap, zaq, zar, zas, zat, zau, zav, zaw, zax, zay, zaz, zba, zbb, zbc, zbd, zbe, zbf, zbg, zbh, zbi, zbj, zbk, zbl, zbm, zbn, zbo, zbp, zbq, Nat.reduceBEq, Bool.or_self, Bool.or_false, Bool.or_true, Bool.and_true, Bool.and_false, Bool.true_and, Bool.false_and, Option.isNone_none, Option.isNone_some, Option.isSome_some, Option.isSome_none, zbr, zbs, zbt, zbu, zbv, zbw, zbx, zby, zbz, zca, zcb, zcc, zcd, zce, zcf, zcg, zch, zci, zcj, zck, zcl, zcm, zcn, zco, zcp, zcq, zcr, own0, zcs, zct, zcu, zcv, zcw, zcx, zcy, zcz, zda, zdb, zdc, zdd, zde, zdf, zdg, zdh, zdi, zdj, zdk, zdl, zdm, zdn, zdo, zdp, zdq, zdr, zds, zdt, zdu, Option.getD_some, Option.getD_none, zfb, zfc, zfd, zfe, zff, zfg, zfh, zfi, Option.map_some, Option.map_none, Option.bind_some, List.map_cons, List.map_nil, List.cons_append, List.nil_append, ↓reduceIte, Nat.reduceEqDiff, Nat.reduceAdd, decide_true, decide_false, Bool.true_eq_false, Bool.false_eq_true, env0, List.getElem?_cons_zero, List.getElem?_cons_succ, zdv, zdw, zdx, zdy, zdz, zea, zeb, zec, ia22, ld31, zed, zee, zef, zeg, zeh, zei, zej, zek, zel, zem, zen, zeo, zep, zeq, zer, fa_0, fa_1, zes, bd_0, bd_2, zet, fd_1, zeu, Nat.zero_add, encT, cellsT, faT_0, faT_1, faT_2, faT_3, faT_4, ldT_0, ldT_1, ldT_2, ldT_3, ldT_4, Nat.reduceAdd, i_neqV, p1, i_eqlV, Int.reduceBEq, s_eqlS, g', unA_not', Bool.not_false]
        exact finish_b _ _ _ _ _ _ _ (by first | (simp only [zfi, ↓reduceIte, Nat.reduceEqDiff]; done) | (simp only [zfi, ↓reduceIte, Nat.reduceEqDiff]; rfl)) rfl
    have b7 : (k == 7) = false := beq_eq_false_iff_ne.mpr h7
    by_cases h4 : k = 4
    · subst h4
      have hr : sameT (.mk 4 n1 lg l s i1 kg ks) (.mk 4 n2 lg' l' s' i2 kg' ks') = (sameK ks ks') := by first | (simp [sameT, kindT, sgnT, limT, strT, nT, kidsT]; done) | (simp [sameT, kindT, sgnT, limT, strT, nT, kidsT]; rfl)
      rw [hr]
      simp only [zaa, zab, zac, zad, zae, zaf, zag, zah, zai, zaj, zak, zal, zam, zan, zao, zap, zaq, zar, zas, zat, zau, zav, zaw, zax, zay, zaz, zba, zbb, zbc, zbd, zbe, zbf, zbg, zbh, zbi, zbj, zbk, zbl, zbm, zbn, zbo, zbp, zbq, Nat.reduceBEq, Bool.or_self, Bool.or_false, Bool.or_true, Bool.and_true, Bool.and_false, Bool.true_and, Bool.false_and, Option.isNone_none, Option.isNone_some, Option.isSome_some, Option.isSome_none, zbr, zbs, zbt, zbu, zbv, zbw, zbx, zby, zbz, zca, zcb, zcc, zcd, zce, zcf, zch, zci, zcl, zcm, zco, zcp, zcq, zcr, own0, zcs, zct, zcu, zcv, zcw, zcx, zcy, zcz, zda, zdb, zdc, zdd, zde, zdf, zdg, zdh, zdi, zdj, zdk, zdl, zdm, zdn, zdo, zdp, zdq, zdr, zds, zdt, zdu, Option.getD_some, Option.getD_none, zfb, zfc, zfd, zfe, zff, zfg, zfh, zfi, Option.map_some, Option.map_none, Option.bind_some, List.map_cons, List.map_nil, List.cons_append, List.nil_append, ↓reduceIte, Nat.reduceEqDiff, Nat.reduceAdd, decide_true, decide_false, Bool.true_eq_false, Bool.false_eq_true, env0, List.getElem?_cons_zero, List.getElem?_cons_succ, zdv, zdw, zdx, zdy, zdz, zea, zeb, zec, ia22, ld31, zed, zee, zef, zeg, zeh, zei, zej, zek, zel, zem, zen, zeo, zep, zeq, zer, fa_0, fa_1, zes, bd_0, bd_2, zet, fd_1, zeu, Nat.zero_add, encT, cellsT, faT_0, faT_1, faT_2, faT_3, faT_4, ldT_0, ldT_1, ldT_2, ldT_3, ldT_4, Nat.reduceAdd, i_neqV, p1, i_eqlV, Int.reduceBEq, s_eqlS, zcg, den_loop]
      rw [zcj, zcg]
      exact K _ _ (by first | (simp only [zfi, ↓reduceIte, Nat.reduceEqDiff]; done) | (simp only [zfi, ↓reduceIte, Nat.reduceEqDiff]; rfl)) (by first | (simp only [zfi, ↓reduceIte, Nat.reduceEqDiff]; done) | (simp only [zfi, ↓reduceIte, Nat.reduceEqDiff]; rfl)) (by first | (simp only [zfi, ↓reduceIte, Nat.reduceEqDiff]; done) | (simp only [zfi, ↓reduceIte, Nat.reduceEqDiff]; rfl)) (by first | (simp only [zfi, ↓reduceIte, Nat.reduceEqDiff]; done) | (simp only [zfi, ↓reduceIte, Nat.reduceEqDiff]; rfl)) (by first | (simp only [zfi, ↓reduceIte, Nat.reduceEqDiff]; done) | (simp only [zfi, ↓reduceIte, Nat.reduceEqDiff]; rfl))
    have b4 : (k == 4) = false := beq_eq_false_iff_ne.mpr h4
    by_cases h5 : k = 5
    · subst h5
      have hr : sameT (.mk 5 n1 lg l s i1 kg ks) (.mk 5 n2 lg' l' s' i2 kg' ks') = (sameK ks ks') := by first | (simp [sameT, kindT, sgnT, limT, strT, nT, kidsT]; done) | (simp [sameT, kindT, sgnT, limT, strT, nT, kidsT]; rfl)
      rw [hr]
      simp only [zaa, zab, zac, zad, zae, zaf, zag, zah, zai, zaj, zak, zal, zam, zan, zao, zap, zaq, zar, zas, zat, zau, zav, zaw, zax, zay, zaz, zba, zbb, zbc, zbd, zbe, zbf, zbg, zbh, zbi, zbj, zbk, zbl, zbm, zbn, zbo, zbp, zbq, Nat.reduceBEq, Bool.or_self, Bool.or_false, Bool.or_true, Bool.and_true, Bool.and_false, Bool.true_and, Bool.false_and, Option.isNone_none, Option.isNone_some, Option.isSome_some, Option.isSome_none, zbr, zbs, zbt, zbu, zbv, zbw, zbx, zby, zbz, zca, zcb, zcc, zcd, zce, zcf, zch, zci, zcl, zcm, zco, zcp, zcq, zcr, own0, zcs, zct, zcu, zcv, zcw, zcx, zcy, zcz, zda, zdb, zdc, zdd, zde, zdf, zdg, zdh, zdi, zdj, zdk, zdl, zdm, zdn, zdo, zdp, zdq, zdr, zds, zdt, zdu, Option.getD_some, Option.getD_none, zfb, zfc, zfd, zfe, zff, zfg, zfh, zfi, Option.map_some, Option.map_none, Option.bind_some, List.map_cons, List.map_nil, List.cons_append, List.nil_append, ↓reduceIte, Nat.reduceEqDiff, Nat.reduceAdd, decide_true, decide_false, Bool.true_eq_false, Bool.false_eq_true, env0, List.getElem?_cons_zero, List.getElem?_cons_succ, zdv, zdw, zdx, zdy, zdz, zea, zeb, zec, ia22, ld31, zed, zee, zef, zeg, zeh, zei, zej, zek, zel, zem, zen, zeo, zep, zeq, zer, fa_0, fa_1, zes, bd_0, bd_2, zet, fd_1, zeu, Nat.zero_add, encT, cellsT, faT_0, faT_1, faT_2, faT_3, faT_4, ldT_0, ldT_1, ldT_2, ldT_3, ldT_4, Nat.reduceAdd, i_neqV, p1, i_eqlV, Int.reduceBEq, s_eqlS, zcg, den_loop]
      rw [zcj, zcg]
      exact K _ _ (by first | (simp only [zfi, ↓reduceIte, Nat.reduceEqDiff]; done) | (simp only [zfi, ↓reduceIte, Nat.reduceEqDiff]; rfl)) (by first | (simp only [zfi, ↓reduceIte, Nat.reduceEqDiff]; done) | (simp only [zfi, ↓reduceIte, Nat.reduceEqDiff]; rfl)) (by first | (simp only [zfi, ↓reduceIte, Nat.reduceEqDiff]; done) | (simp only [zfi, ↓reduceIte, Nat.reduceEqDiff]; rfl)) (by first | (simp only [zfi, ↓reduceIte, Nat.reduceEqDiff]; done) | (simp only [zfi, ↓reduceIte, Nat.reduceEqDiff]; rfl)) (by first | (simp only [zfi, ↓reduceIte, Nat.reduceEqDiff]; done) | (simp only [zfi, ↓reduceIte, Nat.reduceEqDiff]; rfl))
    have b5 : (k == 5) = false := beq_eq_false_iff_ne.mpr h5
    have hr : sameT (.mk k n1 lg l s i1 kg ks) (.mk k n2 lg' l' s' i2 kg' ks') = true := by first | (simp [sameT, kindT, sgnT, limT, strT, nT, kidsT, h1, h2, h4, h5, h6, h7, h8, h9]; done) | (simp [sameT, kindT, sgnT, limT, strT, nT, kidsT, h1, h2, h4, h5, h6, h7, h8, h9]; rfl)
    rw [hr]
    simp only [zaa, zab, zac, zad, zae, zaf, zag, zah, zai, zaj, zak, zal, zam, zan, zao, zap, zaq, zar, zas, zat, zau, zav, zaw, zax, zay, zaz, zba, zbb, zbc, zbd, zbe, zbf, zbg, zbh, zbi, zbj, zbk, zbl, zbm, zbn, zbo, zbp, zbq, Nat.reduceBEq, Bool.or_self, Bool.or_false, Bool.or_true, Bool.and_true, Bool.and_false, Bool.true_and, Bool.false_and, Option.isNone_none, Option.isNone_some, Option.isSome_some, Option.isSome_none, zbr, zbs, zbt, zbu, zbv, zbw, zbx, zby, zbz, zca, zcb, zcc, zcd, zce, zcf, zcg, zch, zci, zcj, zck, zcl, zcm, zcn, zco, zcp, zcq, zcr, own0, zcs, zct, zcu, zcv, zcw, zcx, zcy, zcz, zda, zdb, zdc, zdd, zde, zdf, zdg, zdh, zdi, zdj, zdk, zdl, zdm, zdn, zdo, zdp, zdq, zdr, zds, zdt, zdu, Option.getD_some, Option.getD_none, zfb, zfc, zfd, zfe, zff, zfg, zfh, zfi, Option.map_some, Option.map_none, Option.bind_some, List.map_cons, List.map_nil, List.cons_append, List.nil_append, ↓reduceIte, Nat.reduceEqDiff, Nat.reduceAdd, decide_true, decide_false, Bool.true_eq_false, Bool.false_eq_true, env0, List.getElem?_cons_zero, List.getElem?_cons_succ, zdv, zdw, zdx, zdy, zdz, zea, zeb, zec, ia22, ld31, zed, zee, zef, zeg, zeh, zei, zej, zek, zel, zem, zen, zeo, zep, zeq, zer, fa_0, fa_1, zes, bd_0, bd_2, zet, fd_1, zeu, Nat.zero_add, encT, cellsT, faT_0, ldT_0, i_neqV, p1, i_eqlV, b1, b2, b4, b5, b6, b7, b8, b9]
    exact finish_b _ _ _ _ _ _ _ (by first | (simp only [zfi, ↓reduceIte, Nat.reduceEqDiff]; done) | (simp only [zfi, ↓reduceIte, Nat.reduceEqDiff]; rfl)) rfl
end Go.Ab

/- bif.number, bif.empty, bif.text; relictref03.List, relictlaw00.Proper. Conditions: lengths in range. -/
namespace Go.Ab
open Go.Proofs
set_option maxRecDepth 100000
set_option linter.unusedSimpArgs false

theorem bdN3 : buildA Tryd.prog 29 [(0, .int .i64 3)] = some (.agg (cellsT nilT')) := bdT_0 3
theorem empty_eq (n d : Nat) : evalFn Tryd.prog cfg0 n (d+1) 56 [] = some (.tree (encT nilT'), []) := by
  rw [evalFn_go _ Tryd.func56 (by unfold Tryd.f56; rfl) (by unfold Tryd.f56; decide) (Nat.le_of_ble_eq_true (by unfold Tryd.f56; rfl)) (by kernel_rfl)]
  simp only [zaa, zab, zac, zad, zae, zaf, zag, zah, zai, zaj, zak, zal, zam, zan, zao, zap, zaq, zar, zas, zat, zau, zav, zaw, zax, zay, zaz, zba, zbb, zbc, zbd, zbe, zbf, zbg, zbh, zbi, zbj, zbk, zbl, zbm, zbn, zbo, zbp, zbq, Nat.reduceBEq, Bool.or_self, Bool.or_false, Bool.or_true, Bool.and_true, Bool.and_false, Bool.true_and, Bool.false_and, Option.isNone_none, Option.isNone_some, Option.isSome_some, Option.isSome_none, zbr, zbs, zbt, zbu, zbv, zbw, zbx, zby, zbz, zca, zcb, zcc, zcd, zce, zcf, zcg, zch, zci, zcj, zck, zcl, zcm, zcn, zco, zcp, zcq, zcr, own0, zcs, zct, zcu, zcv, zcw, zcx, zcy, zcz, zda, zdb, zdc, zdd, zde, zdf, zdg, zdh, zdi, zdj, zdk, zdl, zdm, zdn, zdo, zdp, zdq, zdr, zds, zdt, zdu, Option.getD_some, Option.getD_none, zfb, zfc, zfd, zfe, zff, zfg, zfh, zfi, Option.map_some, Option.map_none, Option.bind_some, List.map_cons, List.map_nil, List.cons_append, List.nil_append, ↓reduceIte, Nat.reduceEqDiff, Nat.reduceAdd, decide_true, decide_false, Bool.true_eq_false, Bool.false_eq_true, env0, List.getElem?_cons_zero, List.getElem?_cons_succ, zdv, zdw, zdx, zdy, zdz, zea, zeb, zec, ia22, ld31, zed, zee, zef, zeg, zeh, zei, zej, zek, zel, zem, zen, zeo, zep, zeq, zer, fa_0, fa_1, zes, bd_0, bd_2, zet, fd_1, zeu, Nat.zero_add, zeroT, bdN3, st_Tt, stT_6]
  exact finish_cT _ _ _ _ _ nilT' _ _ _ (by first | (simp only [zfi, ↓reduceIte, Nat.reduceEqDiff]; done) | (simp only [zfi, ↓reduceIte, Nat.reduceEqDiff]; rfl)) (by first | (simp only [zfi, ↓reduceIte, Nat.reduceEqDiff]; done) | (simp only [zfi, ↓reduceIte, Nat.reduceEqDiff]; rfl)) rfl
/-! ### Rows that are handed over -/
theorem argsA_loose (f : FuncId) (s : St) : ∀ (vs : List AV) (j : Nat), vs.all isLent = true → argsA cfg0 f s j vs = some (vs.map fun v => .tree (loosen v))
  | [], _, _ => rfl
  | v :: r, j, h => by
    rw [List.all_cons, Bool.and_eq_true] at h
    have e : argA cfg0 f s j v = some (.tree (loosen v)) := by
      cases v with
      | sl a b g => cases g <;> rfl
      | own => exact nomatch h.1
      | ptr => exact nomatch h.1
      | tupo => exact nomatch h.1
      | _ => rfl
    simp only [argsA, e, Option.bind_some, argsA_loose f s r (j + 1) h.2, Option.map_some, List.map_cons]
theorem gives_loose : ∀ vs : List AV, givesL vs (vs.map fun v => Arg.tree (loosen v)) = []
  | [] => rfl
  | v :: r => by
    have e : givesOf v (Arg.tree (loosen v)) = none := by
      cases v with
      | sl a b g => cases g <;> rfl
      | _ => rfl
    simp only [List.map_cons, givesL, e, gives_loose r]
theorem lends_loose : ∀ vs : List AV, vs.all isLent = true → lendsL vs (vs.map fun v => Arg.tree (loosen v)) = []
  | [], _ => rfl
  | v :: r, h => by
    rw [List.all_cons, Bool.and_eq_true] at h
    have e : lendsOf v (Arg.tree (loosen v)) = none := by
      cases v with
      | sl a b g => cases g <;> rfl
      | own => exact nomatch h.1
      | _ => rfl
    simp only [List.map_cons, lendsL, e, lends_loose r h.2]
theorem back_loose (s : St) : ∀ vs : List AV, backA s vs (vs.map fun v => Arg.tree (loosen v)) (vs.map fun _ => []) = some s
  | [] => rfl
  | v :: r => by
    have e : givesOf v (Arg.tree (loosen v)) = none := by
      cases v with
      | sl a b g => cases g <;> rfl
      | _ => rfl
    simp only [List.map_cons, backA, e, back_loose s r]
theorem callA_loose {call : FuncId → List Arg → Option Out} {d : Nat} {s : St} {f : FuncId} {vs vs' : List AV} {v : AV} (ht : vs.all isLent = true) (e : vs.map loosen = vs') (hc : call f (vs'.map Arg.tree) = some (.tree v, vs.map fun _ => [])) : callA cfg0 call d s f vs = some (v, s) := by
  have e2 : (vs.map fun v => Arg.tree (loosen v)) = vs'.map .tree := by rw [← e]; simp
  have h1 := argsA_loose f s vs 0 ht
  have h2 := gives_loose vs
  have h3 := lends_loose vs ht
  have h4 := back_loose s vs
  rw [e2] at h1 h2 h3 h4
  simp only [callA, h1, Option.bind_some, h2, h3, List.nodup_nil, List.not_mem_nil, false_implies, implies_true, and_self, if_true, hc, List.foldl_nil, ite_self, h4, resA]
theorem Ap.lent {s : St} {d : Nat} {x : AV} {us : List T} (h : Ap s d x us) : isLent x = true ∧ loosen x = .sl (cellsK us) us.length (gr (kgOf us)) := by
  rcases h with ⟨rfl, rfl⟩ | ⟨hu, t, rfl, _⟩
  · exact ⟨rfl, rfl⟩
  · exact ⟨rfl, by simp only [loosen, kgOf, if_neg hu, gr]⟩
theorem lent_T (t : T) : isLent (.agg (cellsT t)) = true := rfl
def one26 (x : AV) : Option AV := (fillA (fun i => some (i * 6, 6)) (rep 1 zeroT6) [(0, x)]).map (.sl · 1 .tight)
theorem one26_T (e : T) : one26 (.agg (cellsT e)) = some (.sl (cellsT e) 1 .tight) := bs1T e
theorem one26_K (e : T) : one26 (.agg (cellsT e)) = some (.sl (cellsK [e]) [e].length .tight) := by
  rw [one26_T]; simp [cellsK]
theorem opA_one26 (call : FuncId → List Arg → Option Out) (q : Bool) (d : Option Tmp) (ty : TypeId) (pos : String) (af : Array Edge) (g : Option (Nat × Bool)) (t : Nat) (env : Env) (s : St) (x : Operand) :
    opA Tryd.prog cfg0 call q ⟨d, .buildSlice 22 1 #[(0, x)], ty, pos, af, g⟩ t env s = (one26 (ev env x)).map (·, s) := by
  rw [opA_bs]
  simp only [tkTk, eszT, zeroT, Option.bind_some, List.map_cons, List.map_nil]
  rfl
end Go.Ab

/- The reference's Int, Neg, Bits; copies of numbers. Conditions: limbs in range. -/
namespace Go.Ab
open Go.Proofs
set_option maxRecDepth 100000
set_option linter.unusedSimpArgs false

end Go.Ab

/- The reference's Div. Conditions: limbs in range, not too many. -/
namespace Go.Ab
open Go.Proofs
set_option maxRecDepth 100000
set_option linter.unusedSimpArgs false

end Go.Ab

/- The reference's sums, products, quotients of numbers. Conditions: limbs in range. -/
namespace Go.Ab
open Go.Proofs
set_option maxRecDepth 100000
set_option linter.unusedSimpArgs false

section
variable (n d : Nat) (hn : 100000 ≤ n)
include hn
end
section
variable (n d : Nat) (hn : 100000 ≤ n) {w w' : AV} {z z' : Int} (hw : IsN w z) (hw' : IsN w' z')
include hn hw hw'
set_option maxHeartbeats 8000000
end
end Go.Ab

/- Bits of numbers with signs, as so many limbs: plain arithmetic. -/
namespace Go.Ab
end Go.Ab

/- Bits with all ones, with nought, with themselves: plain arithmetic. -/
namespace Go.Ab
section
variable (n x : Nat) (h : x < 2 ^ n)
include h
end
section
variable (z : Int) (h : z.natAbs < B ^ 12)
include h
end
end Go.Ab

/- And, or, exclusive or together, of numbers with room: plain arithmetic. -/
namespace Go.Ab
end Go.Ab

/- Bits of numbers below 0, in so many bits as have room. Pure mathematics. -/
namespace Go.Ab
end Go.Ab

/- The reference's bits of numbers. Pure mathematics. -/
namespace Go.Ab
def f3 (op : Nat) (p q : Bool) : Bool := if op = 6 then p && q else if op = 7 then p || q else !(p == q)
section
variable {N op : Nat} {a b : Int} (ha : a.natAbs < 2 ^ N) (hb : b.natAbs < 2 ^ N)
include ha hb
end
end Go.Ab

/- The reference's bits: and, or, exclusive or, bit by bit. Conditions: limbs in range. -/
namespace Go.Ab
open Go.Proofs
set_option maxRecDepth 100000
set_option linter.unusedSimpArgs false

end Go.Ab

/- The reference's bits: the walk. Conditions: limbs in range. -/
namespace Go.Ab
open Go.Proofs
set_option maxRecDepth 100000
set_option linter.unusedSimpArgs false

end Go.Ab

/- The reference's shifts, and how far. Conditions: limbs in range. -/
namespace Go.Ab
open Go.Proofs
set_option maxRecDepth 100000
set_option linter.unusedSimpArgs false

-- Down.
-- Up.
end Go.Ab

/- And, or, exclusive or of limbs; a number's bits. Conditions: numbers that are shown. -/
namespace Go.Ab
open Go.Proofs
set_option maxRecDepth 100000
set_option linter.unusedSimpArgs false

/-! ### bits -/
end Go.Ab

/- A number's bits. Conditions: numbers that are shown. -/
namespace Go.Ab
open Go.Proofs
set_option maxRecDepth 100000
set_option linter.unusedSimpArgs false

end Go.Ab

/- Logic of numbers. Conditions: numbers that are shown. -/
namespace Go.Ab
open Go.Proofs
set_option maxRecDepth 100000
set_option linter.unusedSimpArgs false

end Go.Ab

/- Op: logic; the statements' own way to call it. Conditions: numbers that are shown. -/
namespace Go.Ab
open Go.Proofs
set_option maxRecDepth 100000
set_option linter.unusedSimpArgs false
section
variable (n d : Nat) (hn : 100000 ≤ n) {w w' : AV} {z z' : Int} (hw : IsN w z) (hw' : IsN w' z')
include hn hw hw'
set_option maxHeartbeats 8000000
end
end Go.Ab

/- Op: shifts. Conditions: numbers that are shown. -/
namespace Go.Ab
open Go.Proofs
set_option maxRecDepth 100000
set_option linter.unusedSimpArgs false
section
variable (n d : Nat) (hn : 100000 ≤ n) {w w' : AV} {z z' : Int} (hw : IsN w z) (hw' : IsN w' z')
include hn hw hw'
set_option maxHeartbeats 8000000
end
end Go.Ab

/- The reference's Op, any op; the program's, of an op that is none. Conditions: limbs in range. -/
namespace Go.Ab
open Go.Proofs
set_option maxRecDepth 100000
set_option linter.unusedSimpArgs false

section
variable (n d : Nat) (hn : 100000 ≤ n) {w w' : AV} {z z' : Int} (hw : IsN w z) (hw' : IsN w' z')
include hn hw hw'
set_option maxHeartbeats 8000000
end
end Go.Ab

/- The statement NumRooms, abstractly. Conditions: an int. -/
namespace Go.Ab
open Go.Proofs
set_option maxRecDepth 100000
set_option linter.unusedSimpArgs false

end Go.Ab

/- Op, any op: the program's and the reference's give the same number. Conditions: numbers that are shown. -/
namespace Go.Ab
open Go.Proofs
set_option maxRecDepth 100000
set_option linter.unusedSimpArgs false

section
variable (n d : Nat) (hn : 100000 ≤ n) {w w' : AV} {z z' : Int} (hw : IsN w z) (hw' : IsN w' z')
include hn hw hw'
set_option maxHeartbeats 8000000
end
end Go.Ab

/- The number statements' own example, by the kernel's own reckoning. No conditions. -/
namespace Go.Ab
open Go.Proofs
end Go.Ab

/- The statement NumOrders, abstractly. Conditions: limbs in range. -/
namespace Go.Ab
open Go.Proofs
set_option maxRecDepth 100000
set_option linter.unusedSimpArgs false

end Go.Ab

/- The statement NumAll, abstractly. Conditions: limbs in range, an int in range. -/
namespace Go.Ab
open Go.Proofs
set_option maxRecDepth 100000
set_option linter.unusedSimpArgs false

end Go.Ab

/- Numbers as texts. Pure mathematics. -/
namespace Go.Ab
end Go.Ab

/- Strings: what the library's functions upon them give. Conditions: lengths in range. -/
namespace Go.Ab
open Go.Proofs
set_option maxRecDepth 100000
set_option linter.unusedSimpArgs false

end Go.Ab

/- strings.Trim by the digits. Conditions: lengths in range. -/
namespace Go.Ab
open Go.Proofs
set_option maxRecDepth 100000
set_option linter.unusedSimpArgs false

end Go.Ab

/- The statement NumInts, abstractly. Conditions: two ints. -/
namespace Go.Ab
open Go.Proofs
set_option maxRecDepth 100000
set_option linter.unusedSimpArgs false

section
variable (a b : Int)
variable (ha : a.natAbs ≤ 2147483648) (hb : b.natAbs ≤ 2147483648)
include ha hb
end
end Go.Ab

/- A number's text. Conditions: a number that is shown. -/
namespace Go.Ab
open Go.Proofs
set_option maxRecDepth 100000
set_option linter.unusedSimpArgs false

/-! ### Types -/
theorem tk64 : tkOf Tryd.prog 53 = .sl 9 := by kernel_rfl
theorem esz9 : esz Tryd.prog 9 = some 1 := by kernel_rfl
theorem zero9 : zeroOf Tryd.prog 9 = some [.str []] := by kernel_rfl
/-! ### Join -/
end Go.Ab

/- A number's text: the walk. Conditions: a number that is shown. -/
namespace Go.Ab
open Go.Proofs
set_option maxRecDepth 100000
set_option linter.unusedSimpArgs false

end Go.Ab

/- relictref03.List, relictlaw00.Proper; rows of ints that grow. Conditions: lengths in range. -/
namespace Go.Ab
open Go.Proofs
set_option maxRecDepth 100000
set_option linter.unusedSimpArgs false

def duo26 (x y : AV) : Option AV := (fillA (fun i => some (i * 6, 6)) (rep 2 [.int .i64 0, .bool false, .sl [] 0 .nil, .str [], .int .i64 0, .sl [] 0 .nil]) [(0, x), (1, y)]).map (.sl · 2 .tight)
theorem duo26_agg (a b c d e f a' b' c' d' e' f' : AV) : duo26 (.agg [a, b, c, d, e, f]) (.agg [a', b', c', d', e', f']) = some (.sl [a, b, c, d, e, f, a', b', c', d', e', f'] 2 .tight) := rfl
theorem opA_duo26 (call : FuncId → List Arg → Option Out) (q : Bool) (d : Option Tmp) (ty : TypeId) (pos : String) (af : Array Edge) (g : Option (Nat × Bool)) (t : Nat) (env : Env) (s : St) (x y : Operand) :
    opA Tryd.prog cfg0 call q ⟨d, .buildSlice 22 2 #[(0, x), (1, y)], ty, pos, af, g⟩ t env s = (duo26 (ev env x) (ev env y)).map (·, s) := by
  rw [opA_bs]
  simp only [tkTk, eszT, zeroT, Option.bind_some, List.map_cons, List.map_nil]
  rfl
theorem duo26_T (a b : T) : duo26 (.agg (cellsT a)) (.agg (cellsT b)) = some (.sl (cellsK [a, b]) 2 .tight) := by
  obtain ⟨k, b1, lg, l, s, m, kg, ks⟩ := a
  obtain ⟨k', b2, lg', l', s', m', kg', ks'⟩ := b
  simp only [cellsT, cellsK, List.append_nil, List.cons_append, List.nil_append]
  exact duo26_agg _ _ _ _ _ _ _ _ _ _ _ _
theorem bdT_cons (a b : T) : buildA Tryd.prog 29 [(0, .int .i64 4), (4, .sl (cellsK [a, b]) 2 .tight)] = some (.agg (cellsT (consT a b))) := bdT_4 4 _ _ .t
set_option maxHeartbeats 4000000 in
theorem rList_eq (n d : Nat) (ks : List T) (g : Grip) (t : T) (hn : ks.length < n) (hl : ks.length ≤ 1000000) : evalFn Tryd.prog cfg0 n (d+1) 8 [.tree (.sl (cellsK ks) ks.length g), .tree (encT t)] = some (.tree (encT (listT ks t)), [[], []]) := by
  rw [evalFn_go _ Tryd.func8 (by unfold Tryd.f8; rfl) (by unfold Tryd.f8; decide) (Nat.le_of_ble_eq_true (by unfold Tryd.f8; rfl)) (by kernel_rfl)]
  have f0 := i_sub Tryd.prog 3 (ks.length : Int) 1 (by omega) (by omega)
  simp only [zaa, zab, zac, zad, zae, zaf, zag, zah, zai, zaj, zak, zal, zam, zan, zao, zap, zaq, zar, zas, zat, zau, zav, zaw, zax, zay, zaz, zba, zbb, zbc, zbd, zbe, zbf, zbg, zbh, zbi, zbj, zbk, zbl, zbm, zbn, zbo, zbp, zbq, Nat.reduceBEq, Bool.or_self, Bool.or_false, Bool.or_true, Bool.and_true, Bool.and_false, Bool.true_and, Bool.false_and, Option.isNone_none, Option.isNone_some, Option.isSome_some, Option.isSome_none, zbr, zbs, zbt, zbu, zbv, zbw, zbx, zby, zbz, zca, zcb, zcc, zcd, zce, zcf, zcg, zch, zci, zcj, zck, zcl, zcm, zcn, zco, zcp, zcq, zcr, own0, zcs, zct, zcu, zcv, zcw, zcx, zcy, zcz, zda, zdb, zdc, zdd, zde, zdf, zdg, zdh, zdi, zdj, zdk, zdl, zdm, zdn, zdo, zdp, zdq, zdr, zds, zdt, zdu, Option.getD_some, Option.getD_none, zfb, zfc, zfd, zfe, zff, zfg, zfh, zfi, Option.map_some, Option.map_none, Option.bind_some, List.map_cons, List.map_nil, List.cons_append, List.nil_append, ↓reduceIte, Nat.reduceEqDiff, Nat.reduceAdd, decide_true, decide_false, Bool.true_eq_false, Bool.false_eq_true, env0, List.getElem?_cons_zero, List.getElem?_cons_succ, zdv, zdw, zdx, zdy, zdz, zea, zeb, zec, ia22, ld31, zed, zee, zef, zeg, zeh, zei, zej, zek, zel, zem, zen, zeo, zep, zeq, zer, fa_0, fa_1, zes, bd_0, bd_2, zet, fd_1, zeu, Nat.zero_add, zeroT, encT, ldT_u, st_Tt, stT_6, lenTk, f0, den_loop]
  refine loop_ends (X := Nat) (fun j env s => env 0 = .sl (cellsK ks) ks.length g ∧ env 4 = .ptr 4 1 0 ∧ env 5 = .ptr 5 1 0 ∧ env 6 = .int .i64 ((j : Int) - 1) ∧ s 4 = ⟨1, .buf [.int .i64 0, .bool false, .sl [] 0 .nil, .str [], .int .i64 0, .sl [] 0 .nil]⟩ ∧ s 5 = ⟨1, .buf (cellsT (listT (ks.drop j) t))⟩ ∧ j ≤ ks.length) (fun j => j) (fun _ => (.tree (encT (listT ks t)), [[], []])) ?_ n ks.length _ _ (by omega) ⟨(by first | (simp only [zfi, ↓reduceIte, Nat.reduceEqDiff, env0, List.getElem?_cons_zero]; done) | (simp only [zfi, ↓reduceIte, Nat.reduceEqDiff, env0, List.getElem?_cons_zero]; rfl)), (by first | (simp only [zfi, ↓reduceIte, Nat.reduceEqDiff]; done) | (simp only [zfi, ↓reduceIte, Nat.reduceEqDiff]; rfl)), (by first | (simp only [zfi, ↓reduceIte, Nat.reduceEqDiff]; done) | (simp only [zfi, ↓reduceIte, Nat.reduceEqDiff]; rfl)), (by first | (simp only [zfi, ↓reduceIte, Nat.reduceEqDiff]; done) | (simp only [zfi, ↓reduceIte, Nat.reduceEqDiff]; rfl)), (by first | (simp only [zfi, ↓reduceIte, Nat.reduceEqDiff]; done) | (simp only [zfi, ↓reduceIte, Nat.reduceEqDiff]; rfl)), by rw [List.drop_length]; exact (by first | (simp only [zfi, ↓reduceIte, Nat.reduceEqDiff]; done) | (simp only [zfi, ↓reduceIte, Nat.reduceEqDiff]; rfl)), Nat.le_refl _⟩
  intro rr j hr ih env st ⟨e0, e4, e5, e6, j4, j5, hj⟩
  cases j with
  | zero =>
    have q1 : ¬ (((0 : Nat) : Int) - 1 ≥ 0) := by omega
    rw [List.drop_zero] at j5
    simp only [zaa, zab, zac, zad, zae, zaf, zag, zah, zai, zaj, zak, zal, zam, zan, zao, zap, zaq, zar, zas, zat, zau, zav, zaw, zax, zay, zaz, zba, zbb, zbc, zbd, zbe, zbf, zbg, zbh, zbi, zbj, zbk, zbl, zbm, zbn, zbo, zbp, zbq, Nat.reduceBEq, Bool.or_self, Bool.or_false, Bool.or_true, Bool.and_true, Bool.and_false, Bool.true_and, Bool.false_and, Option.isNone_none, Option.isNone_some, Option.isSome_some, Option.isSome_none, zbr, zbs, zbt, zbu, zbv, zbw, zbx, zby, zbz, zca, zcb, zcc, zcd, zce, zcf, zcg, zch, zci, zcj, zck, zcl, zcm, zcn, zco, zcp, zcq, zcr, own0, zcs, zct, zcu, zcv, zcw, zcx, zcy, zcz, zda, zdb, zdc, zdd, zde, zdf, zdg, zdh, zdi, zdj, zdk, zdl, zdm, zdn, zdo, zdp, zdq, zdr, zds, zdt, zdu, Option.getD_some, Option.getD_none, zfb, zfc, zfd, zfe, zff, zfg, zfh, zfi, Option.map_some, Option.map_none, Option.bind_some, List.map_cons, List.map_nil, List.cons_append, List.nil_append, ↓reduceIte, Nat.reduceEqDiff, Nat.reduceAdd, decide_true, decide_false, Bool.true_eq_false, Bool.false_eq_true, zdv, zdw, zdx, zdy, zdz, zea, zeb, zec, ia22, ld31, zed, zee, zef, zeg, zeh, zei, zej, zek, zel, zem, zen, zeo, zep, zeq, zer, fa_0, fa_1, zes, bd_0, bd_2, zet, fd_1, zeu, Nat.zero_add, e0, e4, e5, e6, j4, j5, q1, ldT_u, st_Tt, stT_6]
    exact finish_cT _ _ _ _ _ (listT ks t) _ _ _ (by first | (simp only [zfi, ↓reduceIte, Nat.reduceEqDiff, e4]; done) | (simp only [zfi, ↓reduceIte, Nat.reduceEqDiff, e4]; rfl)) (by first | (simp only [zfi, ↓reduceIte, Nat.reduceEqDiff]; done) | (simp only [zfi, ↓reduceIte, Nat.reduceEqDiff]; rfl)) rfl
  | succ i =>
    have e6 : env 6 = .int .i64 (i : Int) := by rw [e6]; congr 1; omega
    have q1 : (i : Int) ≥ 0 := by omega
    have hil : i < ks.length := by omega
    have f5 := i_sub Tryd.prog 3 (i : Int) 1 (by omega) (by omega)
    have hd : ks.drop i = ks[i] :: ks.drop (i + 1) := List.drop_eq_getElem_cons hil
    have ia := fun st => ia_K st ks g i hil
    rw [hd] at ia
    have ld := fun st => ld_K st ks[i] (ks.drop (i + 1))
    simp only [encT] at ld
    simp only [zaa, zab, zac, zad, zae, zaf, zag, zah, zai, zaj, zak, zal, zam, zan, zao, zap, zaq, zar, zas, zat, zau, zav, zaw, zax, zay, zaz, zba, zbb, zbc, zbd, zbe, zbf, zbg, zbh, zbi, zbj, zbk, zbl, zbm, zbn, zbo, zbp, zbq, Nat.reduceBEq, Bool.or_self, Bool.or_false, Bool.or_true, Bool.and_true, Bool.and_false, Bool.true_and, Bool.false_and, Option.isNone_none, Option.isNone_some, Option.isSome_some, Option.isSome_none, zbr, zbs, zbt, zbu, zbv, zbw, zbx, zby, zbz, zca, zcb, zcc, zcd, zce, zcf, zcg, zch, zci, zcj, zck, zcl, zcm, zcn, zco, zcp, zcq, zcr, own0, zcs, zct, zcu, zcv, zcw, zcx, zcy, zcz, zda, zdb, zdc, zdd, zde, zdf, zdg, zdh, zdi, zdj, zdk, zdl, zdm, zdn, zdo, zdp, zdq, zdr, zds, zdt, zdu, Option.getD_some, Option.getD_none, zfb, zfc, zfd, zfe, zff, zfg, zfh, zfi, Option.map_some, Option.map_none, Option.bind_some, List.map_cons, List.map_nil, List.cons_append, List.nil_append, ↓reduceIte, Nat.reduceEqDiff, Nat.reduceAdd, decide_true, decide_false, Bool.true_eq_false, Bool.false_eq_true, zdv, zdw, zdx, zdy, zdz, zea, zeb, zec, ia22, ld31, zed, zee, zef, zeg, zeh, zei, zej, zek, zel, zem, zen, zeo, zep, zeq, zer, fa_0, fa_1, zes, bd_0, bd_2, zet, fd_1, zeu, Nat.zero_add, e0, e4, e5, e6, j4, j5, q1, ia, ld, ldT_u, opA_duo26, duo26_T, bdT_cons, st_Tt, stT_u, f5]
    exact ih i _ _ (by omega) rfl ⟨(by first | (simp only [zfi, ↓reduceIte, Nat.reduceEqDiff, e0]; done) | (simp only [zfi, ↓reduceIte, Nat.reduceEqDiff, e0]; rfl)), (by first | (simp only [zfi, ↓reduceIte, Nat.reduceEqDiff, e4]; done) | (simp only [zfi, ↓reduceIte, Nat.reduceEqDiff, e4]; rfl)), (by first | (simp only [zfi, ↓reduceIte, Nat.reduceEqDiff, e5]; done) | (simp only [zfi, ↓reduceIte, Nat.reduceEqDiff, e5]; rfl)), (by first | (simp only [zfi, ↓reduceIte, Nat.reduceEqDiff]; done) | (simp only [zfi, ↓reduceIte, Nat.reduceEqDiff]; rfl)), (by first | (simp only [zfi, ↓reduceIte, Nat.reduceEqDiff, j4]; done) | (simp only [zfi, ↓reduceIte, Nat.reduceEqDiff, j4]; rfl)), by rw [hd]; exact (by first | (simp only [zfi, ↓reduceIte, Nat.reduceEqDiff]; done) | (simp only [zfi, ↓reduceIte, Nat.reduceEqDiff]; rfl)), by omega⟩
/-! ### Rows of ints -/
theorem tkI : tkOf Tryd.prog 40 = .sl 3 := by kernel_rfl
theorem lenInts (s : St) (xs : List AV) (m : Nat) (g : Grip) : lenA Tryd.prog 40 s (.sl xs m g) = some (.int .i64 (m : Int)) := by simp only [lenA, tkI]
theorem iaInts (s : St) (xs : List AV) (m : Nat) (g : Grip) (i : Nat) (h : i < m) : indexAddrA Tryd.prog 40 s (.sl xs m g) (.int .i64 (i : Int)) = some (.rptr (xs.drop i)) := by
  simp only [indexAddrA, tkI, eszTi, Option.bind_some, Int.toNat_natCast, Nat.mul_one]
  rw [if_pos ⟨by omega, by omega⟩]
def ApI (s : St) (d : Nat) (x : AV) (us : List Int) : Prop := (us = [] ∧ x = .sl [] 0 .nil) ∨ (us ≠ [] ∧ ∃ t, x = .sl (intsA us) us.length (.tok d t) ∧ s d = ⟨t, .tok 1⟩)
theorem byI : decide (byOf Tryd.prog 3 ≤ 200) = true := by kernel_rfl
theorem zlI : (zeroOf Tryd.prog 3).map List.length = some 1 := by kernel_rfl
theorem intsA_len (us : List Int) : (intsA us).length = us.length := List.length_map _
theorem ApI.push {s : St} {d : Nat} {x : AV} {us : List Int} (h : ApI s d x us) (hl : us.length ≤ 1000000) (v : Int) :
    ∃ x' s', appendA Tryd.prog #[40, 40] d s x (.sl [.int .i64 v] 1 .tight) = some (x', s') ∧ ApI s' d x' (us ++ [v]) ∧ ∀ q, q ≠ d → s' q = s q := by
  have hb := of_decide_eq_true byI
  have hk : intsA (us ++ [v]) = intsA us ++ [.int .i64 v] := by simp [intsA]
  have hm : ∀ s, moreA Tryd.prog 3 1 (some 40) s (.sl [.int .i64 v] 1 .tight) = some ([.int .i64 v], 1) := fun s => by
    simp only [moreA, Option.map_some, tkI, List.length_cons, List.length_nil, Nat.one_mul, ↓reduceIte]
  have hc : (us.length + 1) * byOf Tryd.prog 3 ≤ 140737488355328 ∧ us.length + 1 ≤ 9223372036854775807 := by
    have : (us.length + 1) * byOf Tryd.prog 3 ≤ 1000001 * 200 := Nat.mul_le_mul (by omega) hb
    omega
  rcases h with ⟨rfl, rfl⟩ | ⟨_, t, rfl, hs⟩
  · refine ⟨_, upd s d ⟨(s d).t + 1, .tok 1⟩, ?_, .inr ⟨by simp, (s d).t + 1, rfl, upd_same _ _ _⟩, fun q hq => upd_ne _ _ hq⟩
    simp only [appendA, List.getElem?_toArray, List.getElem?_cons_zero, List.getElem?_cons_succ, Option.map_some, tkI, eszTi, Option.bind_some, hm, baseA, List.length_nil, Nat.zero_mul, ↓reduceIte, zlI, and_true]
    rw [if_pos (by simpa using hc)]
    simp [intsA]
  · refine ⟨_, upd (upd s d ⟨t, .dead⟩) d ⟨t + 1, .tok 1⟩, ?_, .inr ⟨by simp, t + 1, rfl, upd_same _ _ _⟩, fun q hq => (upd_ne _ _ hq).trans (upd_ne _ _ hq)⟩
    simp only [appendA, List.getElem?_toArray, List.getElem?_cons_zero, List.getElem?_cons_succ, Option.map_some, tkI, eszTi, Option.bind_some, hm, baseA, hs, intsA_len, Nat.mul_one, and_self, ↓reduceIte, zlI, and_true]
    rw [if_pos hc]
    simp only [upd_same, List.length_append, List.length_cons, List.length_nil, Nat.zero_add, hk]
def giOf (us : List Int) : Gk := if us = [] then .n else .l
theorem ApI.lent {s : St} {d : Nat} {x : AV} {us : List Int} (h : ApI s d x us) : isLent x = true ∧ loosen x = .sl (intsA us) us.length (gr (giOf us)) ∧ (isTree x = true → x = .sl (intsA us) us.length (gr (giOf us))) := by
  rcases h with ⟨rfl, rfl⟩ | ⟨hu, t, rfl, _⟩
  · exact ⟨rfl, rfl, fun _ => rfl⟩
  · exact ⟨rfl, by simp only [loosen, giOf, if_neg hu, gr], fun h => nomatch h⟩
theorem ApI.len {s : St} {d : Nat} {x : AV} {us : List Int} (h : ApI s d x us) (st : St) : lenA Tryd.prog 40 st x = some (.int .i64 (us.length : Int)) := by
  rcases h with ⟨rfl, rfl⟩ | ⟨hu, t, rfl, _⟩ <;> simp only [lenA, tkI] <;> rfl
set_option maxHeartbeats 4000000 in
theorem proper_eq (n d : Nat) (hn : 100000 ≤ n) (xs : List Int) (g : Grip) (hx : ∀ x ∈ xs, I64 x) : evalFn Tryd.prog cfg0 n (d+5) 17 [.tree (.sl (intsA xs) xs.length g)] = some (.tree (encT (listT ((xs.take 60).map intT) nilT')), [[]]) := by
  rw [evalFn_go _ Tryd.func17 (by unfold Tryd.f17; rfl) (by unfold Tryd.f17; decide) (Nat.le_of_ble_eq_true (by unfold Tryd.f17; rfl)) (by kernel_rfl)]
  have lx := fun st => lenInts st (intsA xs) xs.length g
  have ix := fun st i h => iaInts st (intsA xs) xs.length g i h
  simp only [zaa, zab, zac, zad, zae, zaf, zag, zah, zai, zaj, zak, zal, zam, zan, zao, zap, zaq, zar, zas, zat, zau, zav, zaw, zax, zay, zaz, zba, zbb, zbc, zbd, zbe, zbf, zbg, zbh, zbi, zbj, zbk, zbl, zbm, zbn, zbo, zbp, zbq, Nat.reduceBEq, Bool.or_self, Bool.or_false, Bool.or_true, Bool.and_true, Bool.and_false, Bool.true_and, Bool.false_and, Option.isNone_none, Option.isNone_some, Option.isSome_some, Option.isSome_none, zbr, zbs, zbt, zbu, zbv, zbw, zbx, zby, zbz, zca, zcb, zcc, zcd, zce, zcf, zcg, zch, zci, zcj, zck, zcl, zcm, zcn, zco, zcp, zcq, zcr, own0, zcs, zct, zcu, zcv, zcw, zcx, zcy, zcz, zda, zdb, zdc, zdd, zde, zdf, zdg, zdh, zdi, zdj, zdk, zdl, zdm, zdn, zdo, zdp, zdq, zdr, zds, zdt, zdu, Option.getD_some, Option.getD_none, zfb, zfc, zfd, zfe, zff, zfg, zfh, zfi, Option.map_some, Option.map_none, Option.bind_some, List.map_cons, List.map_nil, List.cons_append, List.nil_append, ↓reduceIte, Nat.reduceEqDiff, Nat.reduceAdd, decide_true, decide_false, Bool.true_eq_false, Bool.false_eq_true, env0, List.getElem?_cons_zero, List.getElem?_cons_succ, zdv, zdw, zdx, zdy, zdz, zea, zeb, zec, ia22, ld31, zed, zee, zef, zeg, zeh, zei, zej, zek, zel, zem, zen, zeo, zep, zeq, zer, fa_0, fa_1, zes, bd_0, bd_2, zet, fd_1, zeu, Nat.zero_add, zeroT, den_loop]
  refine loop_ends (X := Nat) (fun i env st => env 0 = .sl (intsA xs) xs.length g ∧ env 2 = .ptr 2 1 0 ∧ env 4 = .int .i64 (i : Int) ∧ Ap st 22 (env 3) ((xs.take i).map intT) ∧ st 2 = ⟨1, .buf [.int .i64 0, .bool false, .sl [] 0 .nil, .str [], .int .i64 0, .sl [] 0 .nil]⟩ ∧ i ≤ 60 ∧ i ≤ xs.length) (fun i => 60 - i) (fun _ => (.tree (encT (listT ((xs.take 60).map intT) nilT')), [[]])) ?_ n 0 _ _ (by omega) ⟨(by first | (simp only [zfi, ↓reduceIte, Nat.reduceEqDiff, env0, List.getElem?_cons_zero]; done) | (simp only [zfi, ↓reduceIte, Nat.reduceEqDiff, env0, List.getElem?_cons_zero]; rfl)), (by first | (simp only [zfi, ↓reduceIte, Nat.reduceEqDiff]; done) | (simp only [zfi, ↓reduceIte, Nat.reduceEqDiff]; rfl)), (by first | (simp only [zfi, ↓reduceIte, Nat.reduceEqDiff]; done) | (simp only [zfi, ↓reduceIte, Nat.reduceEqDiff]; rfl)), .inl ⟨rfl, (by first | (simp only [zfi, ↓reduceIte, Nat.reduceEqDiff]; done) | (simp only [zfi, ↓reduceIte, Nat.reduceEqDiff]; rfl))⟩, (by first | (simp only [zfi, ↓reduceIte, Nat.reduceEqDiff]; done) | (simp only [zfi, ↓reduceIte, Nat.reduceEqDiff]; rfl)), by omega, Nat.zero_le _⟩
  intro rr i hr ih env st ⟨e0, e2, e4, ap, j2, hi, hi2⟩
  by_cases hlt : i < xs.length ∧ i < 60
  · obtain ⟨hlt, h60⟩ := hlt
    have q1 : (i : Int) < (xs.length : Int) := by omega
    have q2 : (i : Int) < 60 := by omega
    have c1 := fun D st => callA_trees (cfg := cfg0) (d := D) (s := st) (f := 25) (vs := [.int .i64 xs[i]]) rfl (rInt_eq n d hn xs[i] (hx _ (List.getElem_mem hlt)))
    simp only [encT] at c1
    obtain ⟨x', s', a1, a2, a3⟩ := ap.push (by simp; omega) (intT xs[i])
    have f5 := i_add Tryd.prog 3 (i : Int) 1 (by omega) (by omega)
    have ld := fun st => ldInts xs i hlt st
    have hm : (xs.take (i + 1)).map intT = (xs.take i).map intT ++ [intT xs[i]] := by rw [List.take_succ_eq_append_getElem hlt, List.map_append]; rfl
    simp only [zaa, zab, zac, zad, zae, zaf, zag, zah, zai, zaj, zak, zal, zam, zan, zao, zap, zaq, zar, zas, zat, zau, zav, zaw, zax, zay, zaz, zba, zbb, zbc, zbd, zbe, zbf, zbg, zbh, zbi, zbj, zbk, zbl, zbm, zbn, zbo, zbp, zbq, Nat.reduceBEq, Bool.or_self, Bool.or_false, Bool.or_true, Bool.and_true, Bool.and_false, Bool.true_and, Bool.false_and, Option.isNone_none, Option.isNone_some, Option.isSome_some, Option.isSome_none, zbr, zbs, zbt, zbu, zbv, zbw, zbx, zby, zbz, zca, zcb, zcc, zcd, zce, zcf, zcg, zch, zci, zcj, zck, zcl, zcm, zcn, zco, zcp, zcq, zcr, own0, zcs, zct, zcu, zcv, zcw, zcx, zcy, zcz, zda, zdb, zdc, zdd, zde, zdf, zdg, zdh, zdi, zdj, zdk, zdl, zdm, zdn, zdo, zdp, zdq, zdr, zds, zdt, zdu, Option.getD_some, Option.getD_none, zfb, zfc, zfd, zfe, zff, zfg, zfh, zfi, Option.map_some, Option.map_none, Option.bind_some, List.map_cons, List.map_nil, List.cons_append, List.nil_append, ↓reduceIte, Nat.reduceEqDiff, Nat.reduceAdd, decide_true, decide_false, Bool.true_eq_false, Bool.false_eq_true, zdv, zdw, zdx, zdy, zdz, zea, zeb, zec, ia22, ld31, zed, zee, zef, zeg, zeh, zei, zej, zek, zel, zem, zen, zeo, zep, zeq, zer, fa_0, fa_1, zes, bd_0, bd_2, zet, fd_1, zeu, Nat.zero_add, e0, e2, e4, lx, q1, q2, ix _ i hlt, ld, c1, opA_one26, one26_T, a1, f5]
    exact ih (i + 1) _ _ (by omega) rfl ⟨(by first | (simp only [zfi, ↓reduceIte, Nat.reduceEqDiff, e0]; done) | (simp only [zfi, ↓reduceIte, Nat.reduceEqDiff, e0]; rfl)), (by first | (simp only [zfi, ↓reduceIte, Nat.reduceEqDiff, e2]; done) | (simp only [zfi, ↓reduceIte, Nat.reduceEqDiff, e2]; rfl)), (by first | (simp only [zfi, ↓reduceIte, Nat.reduceEqDiff]; done) | (simp only [zfi, ↓reduceIte, Nat.reduceEqDiff]; rfl)), by rw [hm]; exact a2, by rw [a3 2 (by decide)]; exact j2, by omega, by omega⟩
  have hie : xs.take i = xs.take 60 := by
    by_cases h60 : i = 60
    · rw [h60]
    · rw [List.take_of_length_le (by omega), List.take_of_length_le (by omega)]
  rw [hie] at ap
  obtain ⟨hl1, hl2⟩ := ap.lent
  have hlen : ((xs.take 60).map intT).length ≤ 60 := by simp; omega
  have cl := fun D st => callA_loose (call := evalFn Tryd.prog cfg0 n (d+4)) (d := D) (s := st) (f := 8) (vs := [env 3, encT nilT']) (vs' := [.sl (cellsK ((xs.take 60).map intT)) ((xs.take 60).map intT).length (gr (kgOf ((xs.take 60).map intT))), encT nilT']) (by simp only [List.all_cons, hl1, encT, lent_T, List.all_nil, Bool.and_self]) (by simp only [List.map_cons, hl2]; rfl) (rList_eq n (d+3) ((xs.take 60).map intT) _ nilT' (by omega) (by omega))
  simp only [encT] at cl
  by_cases hlt1 : i < xs.length
  · have q1 : (i : Int) < (xs.length : Int) := by omega
    have q2 : ¬ (i : Int) < 60 := by omega
    simp only [zaa, zab, zac, zad, zae, zaf, zag, zah, zai, zaj, zak, zal, zam, zan, zao, zap, zaq, zar, zas, zat, zau, zav, zaw, zax, zay, zaz, zba, zbb, zbc, zbd, zbe, zbf, zbg, zbh, zbi, zbj, zbk, zbl, zbm, zbn, zbo, zbp, zbq, Nat.reduceBEq, Bool.or_self, Bool.or_false, Bool.or_true, Bool.and_true, Bool.and_false, Bool.true_and, Bool.false_and, Option.isNone_none, Option.isNone_some, Option.isSome_some, Option.isSome_none, zbr, zbs, zbt, zbu, zbv, zbw, zbx, zby, zbz, zca, zcb, zcc, zcd, zce, zcf, zcg, zch, zci, zcj, zck, zcl, zcm, zcn, zco, zcp, zcq, zcr, own0, zcs, zct, zcu, zcv, zcw, zcx, zcy, zcz, zda, zdb, zdc, zdd, zde, zdf, zdg, zdh, zdi, zdj, zdk, zdl, zdm, zdn, zdo, zdp, zdq, zdr, zds, zdt, zdu, Option.getD_some, Option.getD_none, zfb, zfc, zfd, zfe, zff, zfg, zfh, zfi, Option.map_some, Option.map_none, Option.bind_some, List.map_cons, List.map_nil, List.cons_append, List.nil_append, ↓reduceIte, Nat.reduceEqDiff, Nat.reduceAdd, decide_true, decide_false, Bool.true_eq_false, Bool.false_eq_true, zdv, zdw, zdx, zdy, zdz, zea, zeb, zec, ia22, ld31, zed, zee, zef, zeg, zeh, zei, zej, zek, zel, zem, zen, zeo, zep, zeq, zer, fa_0, fa_1, zes, bd_0, bd_2, zet, fd_1, zeu, Nat.zero_add, e0, e2, e4, lx, j2, q1, q2, bdN3, cl, st_Tt, stT_6]
    exact finish_cT _ _ _ _ _ (listT ((xs.take 60).map intT) nilT') _ _ _ (by first | (simp only [zfi, ↓reduceIte, Nat.reduceEqDiff, e2]; done) | (simp only [zfi, ↓reduceIte, Nat.reduceEqDiff, e2]; rfl)) (by first | (simp only [zfi, ↓reduceIte, Nat.reduceEqDiff]; done) | (simp only [zfi, ↓reduceIte, Nat.reduceEqDiff]; rfl)) rfl
  · have q1 : ¬ (i : Int) < (xs.length : Int) := by omega
    simp only [zaa, zab, zac, zad, zae, zaf, zag, zah, zai, zaj, zak, zal, zam, zan, zao, zap, zaq, zar, zas, zat, zau, zav, zaw, zax, zay, zaz, zba, zbb, zbc, zbd, zbe, zbf, zbg, zbh, zbi, zbj, zbk, zbl, zbm, zbn, zbo, zbp, zbq, Nat.reduceBEq, Bool.or_self, Bool.or_false, Bool.or_true, Bool.and_true, Bool.and_false, Bool.true_and, Bool.false_and, Option.isNone_none, Option.isNone_some, Option.isSome_some, Option.isSome_none, zbr, zbs, zbt, zbu, zbv, zbw, zbx, zby, zbz, zca, zcb, zcc, zcd, zce, zcf, zcg, zch, zci, zcj, zck, zcl, zcm, zcn, zco, zcp, zcq, zcr, own0, zcs, zct, zcu, zcv, zcw, zcx, zcy, zcz, zda, zdb, zdc, zdd, zde, zdf, zdg, zdh, zdi, zdj, zdk, zdl, zdm, zdn, zdo, zdp, zdq, zdr, zds, zdt, zdu, Option.getD_some, Option.getD_none, zfb, zfc, zfd, zfe, zff, zfg, zfh, zfi, Option.map_some, Option.map_none, Option.bind_some, List.map_cons, List.map_nil, List.cons_append, List.nil_append, ↓reduceIte, Nat.reduceEqDiff, Nat.reduceAdd, decide_true, decide_false, Bool.true_eq_false, Bool.false_eq_true, zdv, zdw, zdx, zdy, zdz, zea, zeb, zec, ia22, ld31, zed, zee, zef, zeg, zeh, zei, zej, zek, zel, zem, zen, zeo, zep, zeq, zer, fa_0, fa_1, zes, bd_0, bd_2, zet, fd_1, zeu, Nat.zero_add, e0, e2, e4, lx, j2, q1, bdN3, cl, st_Tt, stT_6]
    exact finish_cT _ _ _ _ _ (listT ((xs.take 60).map intT) nilT') _ _ _ (by first | (simp only [zfi, ↓reduceIte, Nat.reduceEqDiff, e2]; done) | (simp only [zfi, ↓reduceIte, Nat.reduceEqDiff, e2]; rfl)) (by first | (simp only [zfi, ↓reduceIte, Nat.reduceEqDiff]; done) | (simp only [zfi, ↓reduceIte, Nat.reduceEqDiff]; rfl)) rfl
end Go.Ab

/- bif.Call by these names: integer_to_list, atom_to_list, length. Conditions: so many nodes at most. -/
namespace Go.Ab
open Go.Proofs
set_option maxRecDepth 100000
set_option linter.unusedSimpArgs false

def sErl : List UInt8 := [101, 114, 108, 97, 110, 103]
def five : List AV := [.str [104, 100], .str [116, 108], .str [116, 117, 112, 108, 101, 95, 115, 105, 122, 101], .str [98, 121, 116, 101, 95, 115, 105, 122, 101], .str [108, 101, 110, 103, 116, 104]]
def throws : List AV := [.str [101, 114, 114, 111, 114], .str [101, 120, 105, 116], .str [116, 104, 114, 111, 119]]
def five64 (a b c d e : AV) : Option AV := (fillA (fun i => some (i * 1, 1)) (rep 5 [.str []]) [(0, a), (1, b), (2, c), (3, d), (4, e)]).map (.sl · 5 .tight)
theorem five64_str (a b c d e : List UInt8) : five64 (.str a) (.str b) (.str c) (.str d) (.str e) = some (.sl [.str a, .str b, .str c, .str d, .str e] 5 .tight) := rfl
theorem opA_five64 (call : FuncId → List Arg → Option Out) (q : Bool) (d : Option Tmp) (ty : TypeId) (pos : String) (af : Array Edge) (g : Option (Nat × Bool)) (t : Nat) (env : Env) (s : St) (x1 x2 x3 x4 x5 : Operand) :
    opA Tryd.prog cfg0 call q ⟨d, .buildSlice 53 5 #[(0, x1), (1, x2), (2, x3), (3, x4), (4, x5)], ty, pos, af, g⟩ t env s = (five64 (ev env x1) (ev env x2) (ev env x3) (ev env x4) (ev env x5)).map (·, s) := by
  rw [opA_bs]
  simp only [tk64, esz9, zero9, Option.bind_some, List.map_cons, List.map_nil]
  rfl
def three64 (a b c : AV) : Option AV := (fillA (fun i => some (i * 1, 1)) (rep 3 [.str []]) [(0, a), (1, b), (2, c)]).map (.sl · 3 .tight)
theorem three64_str (a b c : List UInt8) : three64 (.str a) (.str b) (.str c) = some (.sl [.str a, .str b, .str c] 3 .tight) := rfl
theorem opA_three64 (call : FuncId → List Arg → Option Out) (q : Bool) (d : Option Tmp) (ty : TypeId) (pos : String) (af : Array Edge) (g : Option (Nat × Bool)) (t : Nat) (env : Env) (s : St) (x1 x2 x3 : Operand) :
    opA Tryd.prog cfg0 call q ⟨d, .buildSlice 53 3 #[(0, x1), (1, x2), (2, x3)], ty, pos, af, g⟩ t env s = (three64 (ev env x1) (ev env x2) (ev env x3)).map (·, s) := by
  rw [opA_bs]
  simp only [tk64, esz9, zero9, Option.bind_some, List.map_cons, List.map_nil]
  rfl
/-! ### What is thrown, as a struct -/
def zErr : List AV := [.str [], .int .i64 0, .bool false, .sl [] 0 .nil, .str [], .int .i64 0, .sl [] 0 .nil]
theorem tkE : tkOf Tryd.prog 33 = .st := by kernel_rfl
theorem eszE : esz Tryd.prog 33 = some 7 := by kernel_rfl
theorem shE : shOf Tryd.prog 33 = some (true, 7) := by kernel_rfl
theorem zeroE : zeroOf Tryd.prog 33 = some zErr := by kernel_rfl
theorem plE : placesA Tryd.prog 33 = some [(0, 1), (1, 6)] := by kernel_rfl
theorem bdE_ : buildA Tryd.prog 33 [] = some (.agg zErr) := by
  simp only [buildA, zeroE, tkE, plE, Option.bind_some, fillA]; rfl
theorem st_E (s : St) (p k : Nat) : storeA Tryd.prog 33 s (.ptr p k 0) (.agg zErr) = stT (s p) p k s zErr := by
  simp only [storeA, settle, Option.bind_some, stT]
  cases h : s p with
  | mk t c => cases c <;> simp [eszE, zErr]
theorem stE_z (t k p : Nat) (s : St) : stT ⟨t, .buf zErr⟩ p k s zErr = if t = k then some (upd s p ⟨t, .buf zErr⟩) else none := by
  simp [stT, splice, zErr]
theorem ldE_z (t k : Nat) : ldE Tryd.prog 33 ⟨t, .buf zErr⟩ k 0 = if t = k then some (.agg zErr) else none := by
  rw [ldE, cellsE_buf]
  by_cases h : t = k
  · simp [h, partA, shE, zErr]
  · simp [h]
theorem finish_T2 (k : Bool) (xs : List Arg) (a p e : Nat) (u : T) (t : Nat) (v : Bool) (env : Env) (s : St) (os : List (List AV)) (ha : env a = .ptr p e 0) (hs : s p = ⟨e, .buf (cellsT u)⟩) (hv : env t = .bool v) (ho : outsA s 0 xs = some os) :
    finishP Tryd.prog k xs #[.cell a 29, .tmp t] env s = some (.tree (.tup [encT u, .bool v]), os) := by
  have hl : loadA Tryd.prog 29 s (env a) = some (.agg (cellsT u)) := by rw [ha, zem, hs, ldT_u, if_pos rfl]
  simp [finishP, isTmpR, rvA, hl, hv, settleL, settle, ho, encT]
theorem finish_T3 (k : Bool) (xs : List Arg) (a p e : Nat) (u : T) (b q e' : Nat) (t : Nat) (v : Bool) (env : Env) (s : St) (os : List (List AV)) (ha : env a = .ptr p e 0) (hs : s p = ⟨e, .buf (cellsT u)⟩) (hb : env b = .ptr q e' 0) (hq : s q = ⟨e', .buf zErr⟩) (hv : env t = .bool v) (ho : outsA s 0 xs = some os) :
    finishP Tryd.prog k xs #[.cell a 29, .cell b 33, .tmp t] env s = some (.tree (.tup [encT u, .agg zErr, .bool v]), os) := by
  have hl : loadA Tryd.prog 29 s (env a) = some (.agg (cellsT u)) := by rw [ha, zem, hs, ldT_u, if_pos rfl]
  have hl2 : loadA Tryd.prog 33 s (env b) = some (.agg zErr) := by rw [hb, zem, hq, ldE_z, if_pos rfl]
  simp [finishP, isTmpR, rvA, hl, hl2, hv, settleL, settle, ho, encT]
theorem one26_K1 (e : T) : one26 (.agg (cellsT e)) = some (.sl (cellsK [e]) 1 .tight) := one26_K e
theorem ia_K1 (st : St) (t : T) : indexAddrA Tryd.prog 22 st (.sl (cellsK [t]) 1 .tight) (.int .i64 0) = some (.rptr (cellsK [t])) := ia_K st [t] .tight 0 Nat.zero_lt_one
theorem ld_K1 (st : St) (t : T) (r : List T) : loadA Tryd.prog 29 st (.rptr (cellsK (t :: r))) = some (.agg (cellsT t)) := ld_K st t r
set_option maxHeartbeats 4000000 in
theorem answer1_eq (R d : Nat) (name : List UInt8) (t u : T) (v : Bool) (h : evalFn Tryd.prog cfg0 R d 34 [.tree (.str name), .tree (encT t)] = some (.tree (.tup [encT u, .bool v]), [[], []])) :
    evalFn Tryd.prog cfg0 R (d+1) 22 [.tree (.str name), .tree (.sl (cellsK [t]) 1 .tight)] = some (.tree (.tup [encT u, .bool v]), [[], []]) := by
  rw [evalFn_go _ Tryd.func22 (by unfold Tryd.f22; rfl) (by unfold Tryd.f22; decide) (Nat.le_of_ble_eq_true (by unfold Tryd.f22; rfl)) (by kernel_rfl)]
  have c := fun D st => callA_trees (cfg := cfg0) (d := D) (s := st) (f := 34) (vs := [.str name, encT t]) rfl h
  simp only [encT] at c
  have q1 : (((1 : Nat) : Int) == 1) = true := rfl
  simp only [zaa, zab, zac, zad, zae, zaf, zag, zah, zai, zaj, zak, zal, zam, zan, zao, zap, zaq, zar, zas, zat, zau, zav, zaw, zax, zay, zaz, zba, zbb, zbc, zbd, zbe, zbf, zbg, zbh, zbi, zbj, zbk, zbl, zbm, zbn, zbo, zbp, zbq, Nat.reduceBEq, Bool.or_self, Bool.or_false, Bool.or_true, Bool.and_true, Bool.and_false, Bool.true_and, Bool.false_and, Option.isNone_none, Option.isNone_some, Option.isSome_some, Option.isSome_none, zbr, zbs, zbt, zbu, zbv, zbw, zbx, zby, zbz, zca, zcb, zcc, zcd, zce, zcf, zcg, zch, zci, zcj, zck, zcl, zcm, zcn, zco, zcp, zcq, zcr, own0, zcs, zct, zcu, zcv, zcw, zcx, zcy, zcz, zda, zdb, zdc, zdd, zde, zdf, zdg, zdh, zdi, zdj, zdk, zdl, zdm, zdn, zdo, zdp, zdq, zdr, zds, zdt, zdu, Option.getD_some, Option.getD_none, zfb, zfc, zfd, zfe, zff, zfg, zfh, zfi, Option.map_some, Option.map_none, Option.bind_some, List.map_cons, List.map_nil, List.cons_append, List.nil_append, ↓reduceIte, Nat.reduceEqDiff, Nat.reduceAdd, decide_true, decide_false, Bool.true_eq_false, Bool.false_eq_true, env0, List.getElem?_cons_zero, List.getElem?_cons_succ, zdv, zdw, zdx, zdy, zdz, zea, zeb, zec, ia22, ld31, zed, zee, zef, zeg, zeh, zei, zej, zek, zel, zem, zen, zeo, zep, zeq, zer, fa_0, fa_1, zes, bd_0, bd_2, zet, fd_1, zeu, Nat.zero_add, zeroT, lenTk, i_eqlV, q1, ia_K1, ld_K1, c, zds, st_Tt, stT_6]
  exact finish_T2 _ _ _ _ _ u _ _ _ _ _ (by first | (simp only [zfi, ↓reduceIte, Nat.reduceEqDiff]; done) | (simp only [zfi, ↓reduceIte, Nat.reduceEqDiff]; rfl)) (by first | (simp only [zfi, ↓reduceIte, Nat.reduceEqDiff]; done) | (simp only [zfi, ↓reduceIte, Nat.reduceEqDiff]; rfl)) (by first | (simp only [zfi, ↓reduceIte, Nat.reduceEqDiff]; done) | (simp only [zfi, ↓reduceIte, Nat.reduceEqDiff]; rfl)) rfl
set_option maxHeartbeats 4000000 in
theorem call1_eq (R d : Nat) (name : List UInt8) (t u : T) (h1 : evalFn Tryd.prog cfg0 R d 19 [.tree (.str sErl), .tree (.str name), .tree (.int .i64 1)] = some (.tree (.bool true), [[], [], []]))
    (h2 : evalFn Tryd.prog cfg0 R d 21 [.tree (.sl throws 3 .tight), .tree (.str name)] = some (.tree (.bool false), [[], []]))
    (h3 : evalFn Tryd.prog cfg0 R d 22 [.tree (.str name), .tree (.sl (cellsK [t]) 1 .tight)] = some (.tree (.tup [encT u, .bool true]), [[], []]))
    (h4 : evalFn Tryd.prog cfg0 R d 23 [.tree (encT u)] = some (.tree (.int .i64 (nodT u : Int)), [[]])) (h5 : nodT u ≤ 2000) :
    evalFn Tryd.prog cfg0 R (d+1) 10 [.tree (.str sErl), .tree (.str name), .tree (.sl (cellsK [t]) 1 .tight)] = some (.tree (.tup [encT u, .agg zErr, .bool true]), [[], [], []]) := by
  rw [evalFn_goP _ Tryd.func10 (by unfold Tryd.f10; rfl) (by unfold Tryd.f10; decide) (Nat.le_of_ble_eq_true (by unfold Tryd.f10; rfl)) (by kernel_rfl)]
  have c1 := fun D st => callA_trees (cfg := cfg0) (d := D) (s := st) (f := 19) (vs := [.str sErl, .str name, .int .i64 1]) rfl h1
  have c2 := fun D st => callA_trees (cfg := cfg0) (d := D) (s := st) (f := 21) (vs := [.sl throws 3 .tight, .str name]) rfl h2
  have c3 := fun D st => callA_trees (cfg := cfg0) (d := D) (s := st) (f := 22) (vs := [.str name, .sl (cellsK [t]) 1 .tight]) rfl h3
  have c4 := fun D st => callA_trees (cfg := cfg0) (d := D) (s := st) (f := 23) (vs := [encT u]) rfl h4
  simp only [encT] at c3 c4
  simp only [throws] at c2
  have e1 : ((1 : Nat) : Int) = 1 := rfl
  have w5 : (sErl == ([101, 114, 108, 97, 110, 103] : List UInt8)) = true := by decide
  have q1 : ¬ ((nodT u : Int) > 2000) := by omega
  simp only [prune_seq, prune_cond, prune_block, prune_loop, prune_scope, prune_text, prune_skip, prune_ret, prune_exit, zaa, zab, zac, zad, zae, zaf, zag, zah, zai, zaj, zak, zal, zam, zan, zao, zap, zaq, zar, zas, zat, zau, zav, zaw, zax, zay, zaz, zba, zbb, zbc, zbd, zbe, zbf, zbg, zbh, zbi, zbj, zbk, zbl, zbm, zbn, zbo, zbp, zbq, Nat.reduceBEq, Bool.or_self, Bool.or_false, Bool.or_true, Bool.and_true, Bool.and_false, Bool.true_and, Bool.false_and, Option.isNone_none, Option.isNone_some, Option.isSome_some, Option.isSome_none, zbr, zbs, zbt, zbu, zbv, zbw, zbx, zby, zbz, zca, zcb, zcc, zcd, zce, zcf, zcg, zch, zci, zcj, zck, zcl, zcm, zcn, zco, zcp, zcq, zcr, own0, zcs, zct, zcu, zcv, zcw, zcx, zcy, zcz, zda, zdb, zdc, zdd, zde, zdf, zdg, zdh, zdi, zdj, zdk, zdl, zdm, zdn, zdo, zdp, zdq, zdr, zds, zdt, zdu, Option.getD_some, Option.getD_none, zfb, zfc, zfd, zfe, zff, zfg, zfh, zfi, Option.map_some, Option.map_none, Option.bind_some, List.map_cons, List.map_nil, List.cons_append, List.nil_append, ↓reduceIte, Nat.reduceEqDiff, Nat.reduceAdd, decide_true, decide_false, Bool.true_eq_false, Bool.false_eq_true, env0, List.getElem?_cons_zero, List.getElem?_cons_succ, zdv, zdw, zdx, zdy, zdz, zea, zeb, zec, ia22, ld31, zed, zee, zef, zeg, zeh, zei, zej, zek, zel, zem, zen, zeo, zep, zeq, zer, fa_0, fa_1, zes, bd_0, bd_2, zet, fd_1, zeu, Nat.zero_add, zev, List.toList_toArray, len9, ix9, zew, zex, zey, zez, zfa, zeroT, zeroE, lenTk, e1, i_eqlV, s_eqlS, w5, opA_three64, three64_str, c1, c2, c3, c4, unA_not', Bool.not_true, zds, q1, ldT_u, bdE_, st_Tt, stT_6, st_E, stE_z]
  exact finish_T3 _ _ _ _ _ u _ _ _ _ _ _ _ _ (by first | (simp only [zfi, ↓reduceIte, Nat.reduceEqDiff]; done) | (simp only [zfi, ↓reduceIte, Nat.reduceEqDiff]; rfl)) (by first | (simp only [zfi, ↓reduceIte, Nat.reduceEqDiff]; done) | (simp only [zfi, ↓reduceIte, Nat.reduceEqDiff]; rfl)) (by first | (simp only [zfi, ↓reduceIte, Nat.reduceEqDiff]; done) | (simp only [zfi, ↓reduceIte, Nat.reduceEqDiff]; rfl)) (by first | (simp only [zfi, ↓reduceIte, Nat.reduceEqDiff]; done) | (simp only [zfi, ↓reduceIte, Nat.reduceEqDiff]; rfl)) (by first | (simp only [zfi, ↓reduceIte, Nat.reduceEqDiff]; done) | (simp only [zfi, ↓reduceIte, Nat.reduceEqDiff]; rfl)) rfl
end Go.Ab

/- The statement TermLists. Conditions: limbs in range; texts in range. -/
namespace Go.Ab
open Go.Proofs
set_option maxRecDepth 100000
set_option linter.unusedSimpArgs false

mutual
theorem same_refl : ∀ t : T, sameT t t = true
  | .mk k b lg l s m kg ks => by
    have h := sameK_refl ks
    simp only [sameT, kindT, sgnT, limT, strT, nT, kidsT, ↓reduceIte, h, decide_true, Bool.and_self]
    repeat' split
    all_goals rfl
theorem sameK_refl : ∀ ks : List T, sameK ks ks = true
  | [] => by simp only [sameK]
  | t :: r => by simp only [sameK, same_refl t, sameK_refl r, Bool.and_self]
end
theorem itT_list : ∀ (ks : List T) (r : Nat) (acc : List T), ks.length < r → itT r (listT ks nilT') acc = some (acc ++ ks)
  | [], r, acc, h => by
    obtain ⟨r', rfl⟩ : ∃ r', r = r' + 1 := ⟨r - 1, by simp at h; omega⟩
    simp [listT, itT, nilT', kindT]
  | k :: ks, r, acc, h => by
    obtain ⟨r', rfl⟩ : ∃ r', r = r' + 1 := ⟨r - 1, by simp at h; omega⟩
    have h' := itT_list ks r' (acc ++ [k]) (by simp at h; omega)
    have e : itT (r' + 1) (listT (k :: ks) nilT') acc = itT r' (listT ks nilT') (acc ++ [k]) := rfl
    rw [e, h']
    simp
theorem few_listT {m : Nat} (hm : 2 < m) : ∀ (ks : List T) (t : T), fewK m ks → fewT m t → fewT m (listT ks t)
  | [], t, _, h => h
  | k :: ks, t, h, h' => by
    simp only [fewK] at h
    simp only [listT, consT, fewT, fewK, and_true, List.length_nil, List.length_cons]
    exact ⟨by omega, by omega, h.1, few_listT hm ks t h.2 h'⟩
section
variable (R : Nat) (hR : 1000000 ≤ R) (hR2 : R ≤ 9223372036854775808) (ks : List T) (hl : ks.length ≤ 60) (n : Int)
include hR hl
end
end Go.Ab

/- What BifTexts compares: lists of a text's bytes. Conditions: lengths in range. -/
namespace Go.Ab
open Go.Proofs
set_option maxRecDepth 100000
set_option linter.unusedSimpArgs false

theorem ApI.proper {s : St} {d : Nat} {x : AV} {us : List Int} (h : ApI s d x us) (n D : Nat) (hn : 100000 ≤ n) (hx : ∀ x ∈ us, I64 x) : callQ (evalFn Tryd.prog cfg0 n (D+5)) 17 [x] = some (encT (listT ((us.take 60).map intT) nilT')) := by
  rcases h with ⟨rfl, rfl⟩ | ⟨_, t, rfl, _⟩
  · exact callQ_trees (vs := [.sl [] 0 .nil]) rfl (proper_eq n D hn [] .nil (by simp))
  · exact callQ_loose (vs := [.sl (intsA us) us.length (.tok d t)]) rfl rfl rfl (proper_eq n D hn us .loose hx)
def isOkB : Option Out → Bool
  | some (.tree (.bool true), []) => true
  | _ => false
theorem isOkB_eq {o : Option Out} (h : isOkB o = true) : o = some (.tree (.bool true), []) := by
  unfold isOkB at h
  split at h
  · rfl
  · cases h
theorem awakeB_eq : evalFn Tryd.prog cfg0 100000 60 7 [] = some (.tree (.bool true), []) := isOkB_eq (by kernel_rfl)
end Go.Ab

/- relictref03.Items of a list, relictref03.Many. Conditions: so many nodes at most. -/
namespace Go.Ab
open Go.Proofs
set_option maxRecDepth 100000
set_option linter.unusedSimpArgs false

set_option maxHeartbeats 8000000 in
theorem rItems_eq (R d : Nat) (ks : List T) (hl : ks.length ≤ 1999) (hR : 2010 ≤ R) : evalFn Tryd.prog cfg0 R (d+1) 11 [.tree (encT (listT ks nilT'))] = some (.tree (.tup [.sl (cellsK ks) ks.length (gr (kgOf ks)), .bool true]), [[]]) := by
  rw [evalFn_go _ Tryd.func11 (by unfold Tryd.f11; rfl) (by unfold Tryd.f11; decide) (Nat.le_of_ble_eq_true (by unfold Tryd.f11; rfl)) (by kernel_rfl)]
  simp only [zaa, zab, zac, zad, zae, zaf, zag, zah, zai, zaj, zak, zal, zam, zan, zao, zap, zaq, zar, zas, zat, zau, zav, zaw, zax, zay, zaz, zba, zbb, zbc, zbd, zbe, zbf, zbg, zbh, zbi, zbj, zbk, zbl, zbm, zbn, zbo, zbp, zbq, Nat.reduceBEq, Bool.or_self, Bool.or_false, Bool.or_true, Bool.and_true, Bool.and_false, Bool.true_and, Bool.false_and, Option.isNone_none, Option.isNone_some, Option.isSome_some, Option.isSome_none, zbr, zbs, zbt, zbu, zbv, zbw, zbx, zby, zbz, zca, zcb, zcc, zcd, zce, zcf, zcg, zch, zci, zcj, zck, zcl, zcm, zcn, zco, zcp, zcq, zcr, own0, zcs, zct, zcu, zcv, zcw, zcx, zcy, zcz, zda, zdb, zdc, zdd, zde, zdf, zdg, zdh, zdi, zdj, zdk, zdl, zdm, zdn, zdo, zdp, zdq, zdr, zds, zdt, zdu, Option.getD_some, Option.getD_none, zfb, zfc, zfd, zfe, zff, zfg, zfh, zfi, Option.map_some, Option.map_none, Option.bind_some, List.map_cons, List.map_nil, List.cons_append, List.nil_append, ↓reduceIte, Nat.reduceEqDiff, Nat.reduceAdd, decide_true, decide_false, Bool.true_eq_false, Bool.false_eq_true, env0, List.getElem?_cons_zero, List.getElem?_cons_succ, zef, zeg, zeh, zei, zej, zek, zel, zem, zen, zeo, zep, zeq, zer, fa_0, fa_1, zes, bd_0, bd_2, zet, fd_1, zeu, Nat.zero_add, encT, den_loop]
  refine loop_ends (X := Nat) (fun i env s => env 1 = .ptr 1 1 0 ∧ s 1 = ⟨1, .buf (cellsT (listT (ks.drop i) nilT'))⟩ ∧ Ap s 23 (env 4) (ks.take i) ∧ i ≤ ks.length) (fun i => ks.length - i) (fun _ => (.tree (.tup [.sl (cellsK ks) ks.length (gr (kgOf ks)), .bool true]), [[]])) ?_ R 0 _ _ (by omega) ⟨(by first | (simp only [zfi, ↓reduceIte, Nat.reduceEqDiff]; done) | (simp only [zfi, ↓reduceIte, Nat.reduceEqDiff]; rfl)), (by first | (simp only [zfi, ↓reduceIte, Nat.reduceEqDiff]; done) | (simp only [zfi, ↓reduceIte, Nat.reduceEqDiff]; rfl)), .inl ⟨rfl, (by first | (simp only [zfi, ↓reduceIte, Nat.reduceEqDiff]; done) | (simp only [zfi, ↓reduceIte, Nat.reduceEqDiff]; rfl))⟩, Nat.zero_le _⟩
  rintro rd i hrd ih env st ⟨e1, j1, ap, hi⟩
  generalize h4 : env 4 = x4 at ap
  have la : ∀ st, lenA Tryd.prog 22 st x4 = some (.int .i64 ((ks.take i).length : Int)) := fun st => by
    rcases ap with ⟨g, rfl⟩ | ⟨_, tt, rfl, _⟩
    · rw [g]; exact lenTk st [] 0 .nil
    · exact lenTk st _ _ _
  cases hdr : ks.drop i with
  | nil =>
    have hil : i = ks.length := by have := congrArg List.length hdr; simp only [List.length_drop, List.length_nil] at this; omega
    rw [hdr] at j1
    subst hil
    rw [List.take_length] at ap
    simp only [listT, nilT', cellsT] at j1
    simp only [zaa, zab, zac, zad, zae, zaf, zag, zah, zai, zaj, zak, zal, zam, zan, zao, zap, zaq, zar, zas, zat, zau, zav, zaw, zax, zay, zaz, zba, zbb, zbc, zbd, zbe, zbf, zbg, zbh, zbi, zbj, zbk, zbl, zbm, zbn, zbo, zbp, zbq, Nat.reduceBEq, Bool.or_self, Bool.or_false, Bool.or_true, Bool.and_true, Bool.and_false, Bool.true_and, Bool.false_and, Option.isNone_none, Option.isNone_some, Option.isSome_some, Option.isSome_none, zbr, zbs, zbt, zbu, zbv, zbw, zbx, zby, zbz, zca, zcb, zcc, zcd, zce, zcf, zcg, zch, zci, zcj, zck, zcl, zcm, zcn, zco, zcp, zcq, zcr, own0, zcs, zct, zcu, zcv, zcw, zcx, zcy, zcz, zda, zdb, zdc, zdd, zde, zdf, zdg, zdh, zdi, zdj, zdk, zdl, zdm, zdn, zdo, zdp, zdq, zdr, zds, zdt, zdu, Option.getD_some, Option.getD_none, zfb, zfc, zfd, zfe, zff, zfg, zfh, zfi, Option.map_some, Option.map_none, Option.bind_some, List.map_cons, List.map_nil, List.cons_append, List.nil_append, ↓reduceIte, Nat.reduceEqDiff, Nat.reduceAdd, decide_true, decide_false, Bool.true_eq_false, Bool.false_eq_true, zdv, zdw, zdx, zdy, zdz, zea, zeb, zec, ia22, ld31, zed, zee, zef, zeg, zeh, zei, zej, zek, zel, zem, zen, zeo, zep, zeq, zer, fa_0, fa_1, zes, bd_0, bd_2, zet, fd_1, zeu, Nat.zero_add, e1, j1, h4, faT_0, ldT_0, i_eqlV, i_neqV, Int.reduceBEq, Int.reduceBNe]
    exact finish_Kb _ _ _ _ 23 x4 ks _ _ _ _ (by first | (simp only [zfi, ↓reduceIte, Nat.reduceEqDiff]; done) | (simp only [zfi, ↓reduceIte, Nat.reduceEqDiff]; rfl)) ap (by first | (simp only [zfi, ↓reduceIte, Nat.reduceEqDiff]; done) | (simp only [zfi, ↓reduceIte, Nat.reduceEqDiff]; rfl)) rfl
  | cons h r =>
    have hil : i < ks.length := by have := congrArg List.length hdr; simp only [List.length_drop, List.length_cons] at this; omega
    rw [hdr] at j1
    have hdr2 := drop_next hdr
    have q5 : (((2 : Nat) : Int) != 2) = false := rfl
    have q6 : ¬ (((ks.take i).length : Int) ≥ 2000) := by rw [List.length_take]; omega
    obtain ⟨x', s', a1, a2, a3⟩ := ap.push (by rw [List.length_take]; omega) h
    have ht : ks.take (i + 1) = ks.take i ++ [h] := by
      rw [List.take_add_one]
      congr 1
      have : ks[i]? = some h := by rw [← Nat.add_zero i, ← List.getElem?_drop, hdr]; rfl
      rw [this]; rfl
    have i0 : ∀ st, indexAddrA Tryd.prog 22 st (.sl (cellsK [h, listT r nilT']) 2 .tight) (.int .i64 0) = some (.rptr (cellsK [h, listT r nilT'])) := fun st => ia_K st [h, listT r nilT'] .tight 0 (by simp)
    have i1 : ∀ st, indexAddrA Tryd.prog 22 st (.sl (cellsK [h, listT r nilT']) 2 .tight) (.int .i64 1) = some (.rptr (cellsK [listT r nilT'])) := fun st => ia_K st [h, listT r nilT'] .tight 1 (by simp)
    have l0 := fun st => ld_K st h [listT r nilT']
    have l1 := fun st => ld_K st (listT r nilT') []
    simp only [encT] at l0 l1
    simp only [listT, consT, cellsT, gr, List.length_cons, List.length_nil, Nat.zero_add, Nat.reduceAdd] at j1
    have j1' : s' 1 = st 1 := a3 1 (by decide)
    rw [j1] at j1'
    simp only [zaa, zab, zac, zad, zae, zaf, zag, zah, zai, zaj, zak, zal, zam, zan, zao, zap, zaq, zar, zas, zat, zau, zav, zaw, zax, zay, zaz, zba, zbb, zbc, zbd, zbe, zbf, zbg, zbh, zbi, zbj, zbk, zbl, zbm, zbn, zbo, zbp, zbq, Nat.reduceBEq, Bool.or_self, Bool.or_false, Bool.or_true, Bool.and_true, Bool.and_false, Bool.true_and, Bool.false_and, Option.isNone_none, Option.isNone_some, Option.isSome_some, Option.isSome_none, zbr, zbs, zbt, zbu, zbv, zbw, zbx, zby, zbz, zca, zcb, zcc, zcd, zce, zcf, zcg, zch, zci, zcj, zck, zcl, zcm, zcn, zco, zcp, zcq, zcr, own0, zcs, zct, zcu, zcv, zcw, zcx, zcy, zcz, zda, zdb, zdc, zdd, zde, zdf, zdg, zdh, zdi, zdj, zdk, zdl, zdm, zdn, zdo, zdp, zdq, zdr, zds, zdt, zdu, Option.getD_some, Option.getD_none, zfb, zfc, zfd, zfe, zff, zfg, zfh, zfi, Option.map_some, Option.map_none, Option.bind_some, List.map_cons, List.map_nil, List.cons_append, List.nil_append, ↓reduceIte, Nat.reduceEqDiff, Nat.reduceAdd, decide_true, decide_false, Bool.true_eq_false, Bool.false_eq_true, zdv, zdw, zdx, zdy, zdz, zea, zeb, zec, ia22, ld31, zed, zee, zef, zeg, zeh, zei, zej, zek, zel, zem, zen, zeo, zep, zeq, zer, fa_0, fa_1, zes, bd_0, bd_2, zet, fd_1, zeu, Nat.zero_add, e1, j1, h4, la, faT_0, ldT_0, faT_4, ldT_4, Nat.reduceAdd, lenTk, i_eqlV, i_neqV, Int.reduceBEq, q5, q6, i0, l0, opA_one26, one26_T, a1, j1', i1, l1, st_Tt, stT_6]
    refine ih (i + 1) _ _ (by omega) rfl ⟨(by first | (simp only [zfi, ↓reduceIte, Nat.reduceEqDiff, e1]; done) | (simp only [zfi, ↓reduceIte, Nat.reduceEqDiff, e1]; rfl)), by rw [hdr2]; exact (by first | (simp only [zfi, ↓reduceIte, Nat.reduceEqDiff]; done) | (simp only [zfi, ↓reduceIte, Nat.reduceEqDiff]; rfl)), ?_, by omega⟩
    rw [ht]
    rcases a2 with ⟨g1, _⟩ | ⟨g1, tt, g2, g3⟩
    · exact absurd g1 (by simp)
    · exact .inr ⟨g1, tt, (by first | (simp only [zfi, ↓reduceIte, Nat.reduceEqDiff, g2]; done) | (simp only [zfi, ↓reduceIte, Nat.reduceEqDiff, g2]; rfl)), by rw [upd_ne _ _ (by decide)]; exact g3⟩
set_option maxHeartbeats 8000000 in
theorem rMany_eq (n : Nat) (hn2 : n ≤ 1000000) : ∀ (d : Nat) (t : T) (m : Nat), htT t ≤ d → nodT t < n → m + nodT t ≤ 2000 →
    evalFn Tryd.prog cfg0 n d 9 [.tree (encT t), .tree (.int .i64 (m : Int))] = some (.tree (.int .i64 ((m + nodT t : Nat) : Int)), [[], []])
  | 0, t, m, hd, hnd, _ => by obtain ⟨k, b, lg, l, s, m, kg, ks⟩ := t; simp only [htT] at hd; omega
  | d + 1, t, m0, hd, hnd, hm => by
    have IH := rMany_eq n hn2 d
    rw [evalFn_go _ Tryd.func9 (by unfold Tryd.f9; rfl) (by unfold Tryd.f9; decide) (Nat.le_of_ble_eq_true (by unfold Tryd.f9; rfl)) (by kernel_rfl)]
    obtain ⟨k, b, lg, l, s, m, kg, ks⟩ := t
    simp only [htT] at hd
    simp only [nodT] at hnd hm ⊢
    have f0 := i_add Tryd.prog 3 (m0 : Int) 1 (by omega) (by omega)
    simp only [zaa, zab, zac, zad, zae, zaf, zag, zah, zai, zaj, zak, zal, zam, zan, zao, zap, zaq, zar, zas, zat, zau, zav, zaw, zax, zay, zaz, zba, zbb, zbc, zbd, zbe, zbf, zbg, zbh, zbi, zbj, zbk, zbl, zbm, zbn, zbo, zbp, zbq, Nat.reduceBEq, Bool.or_self, Bool.or_false, Bool.or_true, Bool.and_true, Bool.and_false, Bool.true_and, Bool.false_and, Option.isNone_none, Option.isNone_some, Option.isSome_some, Option.isSome_none, zbr, zbs, zbt, zbu, zbv, zbw, zbx, zby, zbz, zca, zcb, zcc, zcd, zce, zcf, zcg, zch, zci, zcj, zck, zcl, zcm, zcn, zco, zcp, zcq, zcr, own0, zcs, zct, zcu, zcv, zcw, zcx, zcy, zcz, zda, zdb, zdc, zdd, zde, zdf, zdg, zdh, zdi, zdj, zdk, zdl, zdm, zdn, zdo, zdp, zdq, zdr, zds, zdt, zdu, Option.getD_some, Option.getD_none, zfb, zfc, zfd, zfe, zff, zfg, zfh, zfi, Option.map_some, Option.map_none, Option.bind_some, List.map_cons, List.map_nil, List.cons_append, List.nil_append, ↓reduceIte, Nat.reduceEqDiff, Nat.reduceAdd, decide_true, decide_false, Bool.true_eq_false, Bool.false_eq_true, env0, List.getElem?_cons_zero, List.getElem?_cons_succ, zdv, zdw, zdx, zdy, zdz, zea, zeb, zec, ia22, ld31, zed, zee, zef, zeg, zeh, zei, zej, zek, zel, zem, zen, zeo, zep, zeq, zer, fa_0, fa_1, zes, bd_0, bd_2, zet, fd_1, zeu, Nat.zero_add, encT, cellsT, f0, den_loop]
    refine loop_ends (X := Nat) (fun i env s' => env 2 = .ptr 2 1 0 ∧ s' 2 = ⟨1, .buf (cellsT (.mk k b lg l s m kg ks))⟩ ∧ env 5 = .int .i64 (i : Int) ∧ env 1 = .int .i64 ((m0 : Int) + 1 + nodK (ks.take i)) ∧ i ≤ ks.length) (fun i => ks.length - i) (fun _ => (.tree (.int .i64 ((m0 + (nodK ks + 1) : Nat) : Int)), [[], []])) ?_ n 0 _ _ (by have := nodK_len ks; omega) ⟨(by first | (simp only [zfi, ↓reduceIte, Nat.reduceEqDiff]; done) | (simp only [zfi, ↓reduceIte, Nat.reduceEqDiff]; rfl)), by simp only [cellsT]; exact (by first | (simp only [zfi, ↓reduceIte, Nat.reduceEqDiff]; done) | (simp only [zfi, ↓reduceIte, Nat.reduceEqDiff]; rfl)), (by first | (simp only [zfi, ↓reduceIte, Nat.reduceEqDiff]; done) | (simp only [zfi, ↓reduceIte, Nat.reduceEqDiff]; rfl)), by simp only [List.take_zero, nodK]; exact (by first | (simp only [zfi, ↓reduceIte, Nat.reduceEqDiff]; done) | (simp only [zfi, ↓reduceIte, Nat.reduceEqDiff]; rfl)), Nat.zero_le _⟩
    rintro rr i hrr ih2 env st ⟨e2, j2, e5, e1, hi⟩
    simp only [cellsT] at j2
    cases hdr : ks.drop i with
    | nil =>
      have hil : i = ks.length := by have := congrArg List.length hdr; simp only [List.length_drop, List.length_nil] at this; omega
      subst hil
      rw [List.take_length] at e1
      have q1 : ¬ ((ks.length : Int) < (ks.length : Int)) := by omega
      have e1 : env 1 = .int .i64 ((m0 + (nodK ks + 1) : Nat) : Int) := by rw [e1]; congr 1; omega
      simp only [zaa, zab, zac, zad, zae, zaf, zag, zah, zai, zaj, zak, zal, zam, zan, zao, zap, zaq, zar, zas, zat, zau, zav, zaw, zax, zay, zaz, zba, zbb, zbc, zbd, zbe, zbf, zbg, zbh, zbi, zbj, zbk, zbl, zbm, zbn, zbo, zbp, zbq, Nat.reduceBEq, Bool.or_self, Bool.or_false, Bool.or_true, Bool.and_true, Bool.and_false, Bool.true_and, Bool.false_and, Option.isNone_none, Option.isNone_some, Option.isSome_some, Option.isSome_none, zbr, zbs, zbt, zbu, zbv, zbw, zbx, zby, zbz, zca, zcb, zcc, zcd, zce, zcf, zcg, zch, zci, zcj, zck, zcl, zcm, zcn, zco, zcp, zcq, zcr, own0, zcs, zct, zcu, zcv, zcw, zcx, zcy, zcz, zda, zdb, zdc, zdd, zde, zdf, zdg, zdh, zdi, zdj, zdk, zdl, zdm, zdn, zdo, zdp, zdq, zdr, zds, zdt, zdu, Option.getD_some, Option.getD_none, zfb, zfc, zfd, zfe, zff, zfg, zfh, zfi, Option.map_some, Option.map_none, Option.bind_some, List.map_cons, List.map_nil, List.cons_append, List.nil_append, ↓reduceIte, Nat.reduceEqDiff, Nat.reduceAdd, decide_true, decide_false, Bool.true_eq_false, Bool.false_eq_true, zdv, zdw, zdx, zdy, zdz, zea, zeb, zec, ia22, ld31, zed, zee, zef, zeg, zeh, zei, zej, zek, zel, zem, zen, zeo, zep, zeq, zer, fa_0, fa_1, zes, bd_0, bd_2, zet, fd_1, zeu, Nat.zero_add, e2, j2, e5, e1, faT_4, ldT_4, Nat.reduceAdd, lenTk, q1]
      exact finish_i _ _ _ _ _ _ _ (by first | (simp only [zfi, ↓reduceIte, Nat.reduceEqDiff]; done) | (simp only [zfi, ↓reduceIte, Nat.reduceEqDiff]; rfl)) rfl
    | cons kid r =>
      have hil : i < ks.length := by have := congrArg List.length hdr; simp only [List.length_drop, List.length_cons] at this; omega
      have kh := kids_ht ks i kid r hdr
      have kn := kids_nod ks i kid r hdr
      have ht : ks.take (i + 1) = ks.take i ++ [kid] := by
        rw [List.take_add_one]
        congr 1
        have : ks[i]? = some kid := by rw [← Nat.add_zero i, ← List.getElem?_drop, hdr]; rfl
        rw [this]; rfl
      have hle : nodK (ks.take (i + 1)) ≤ nodK ks := nodK_take ks (i + 1)
      have hsum : nodK (ks.take (i + 1)) = nodK (ks.take i) + nodT kid := by
        rw [ht, nodK_app]; simp only [nodK]; omega
      have q1 : (i : Int) < (ks.length : Int) := by omega
      have e1 : env 1 = .int .i64 ((m0 + 1 + nodK (ks.take i) : Nat) : Int) := by rw [e1]; congr 1
      have q2 : ((m0 + 1 + nodK (ks.take i) : Nat) : Int) ≤ 2000 := by omega
      have f5 := i_add Tryd.prog 3 (i : Int) 1 (by omega) (by have := nodK_len ks; omega)
      have cc := fun D st => callA_trees (cfg := cfg0) (d := D) (s := st) (f := 9) (vs := [encT kid, .int .i64 ((m0 + 1 + nodK (ks.take i) : Nat) : Int)]) rfl (IH kid (m0 + 1 + nodK (ks.take i)) (by omega) (by omega) (by omega))
      have ia := fun st => ia_K st ks (gr kg) i hil
      rw [hdr] at ia
      have ld := fun st => ld_K st kid r
      simp only [encT] at cc ld
      simp only [zaa, zab, zac, zad, zae, zaf, zag, zah, zai, zaj, zak, zal, zam, zan, zao, zap, zaq, zar, zas, zat, zau, zav, zaw, zax, zay, zaz, zba, zbb, zbc, zbd, zbe, zbf, zbg, zbh, zbi, zbj, zbk, zbl, zbm, zbn, zbo, zbp, zbq, Nat.reduceBEq, Bool.or_self, Bool.or_false, Bool.or_true, Bool.and_true, Bool.and_false, Bool.true_and, Bool.false_and, Option.isNone_none, Option.isNone_some, Option.isSome_some, Option.isSome_none, zbr, zbs, zbt, zbu, zbv, zbw, zbx, zby, zbz, zca, zcb, zcc, zcd, zce, zcf, zcg, zch, zci, zcj, zck, zcl, zcm, zcn, zco, zcp, zcq, zcr, own0, zcs, zct, zcu, zcv, zcw, zcx, zcy, zcz, zda, zdb, zdc, zdd, zde, zdf, zdg, zdh, zdi, zdj, zdk, zdl, zdm, zdn, zdo, zdp, zdq, zdr, zds, zdt, zdu, Option.getD_some, Option.getD_none, zfb, zfc, zfd, zfe, zff, zfg, zfh, zfi, Option.map_some, Option.map_none, Option.bind_some, List.map_cons, List.map_nil, List.cons_append, List.nil_append, ↓reduceIte, Nat.reduceEqDiff, Nat.reduceAdd, decide_true, decide_false, Bool.true_eq_false, Bool.false_eq_true, zdv, zdw, zdx, zdy, zdz, zea, zeb, zec, ia22, ld31, zed, zee, zef, zeg, zeh, zei, zej, zek, zel, zem, zen, zeo, zep, zeq, zer, fa_0, fa_1, zes, bd_0, bd_2, zet, fd_1, zeu, Nat.zero_add, e2, j2, e5, e1, faT_4, ldT_4, Nat.reduceAdd, lenTk, q1, q2, ia, ld, cc, f5]
      have x1 : (((m0 + 1 + nodK (ks.take i)) + nodT kid : Nat) : Int) = (m0 : Int) + 1 + nodK (ks.take (i + 1)) := by omega
      rw [x1]
      exact ih2 (i + 1) _ _ (by omega) rfl ⟨(by first | (simp only [zfi, ↓reduceIte, Nat.reduceEqDiff, e2]; done) | (simp only [zfi, ↓reduceIte, Nat.reduceEqDiff, e2]; rfl)), by simp only [cellsT]; exact j2, (by first | (simp only [zfi, ↓reduceIte, Nat.reduceEqDiff]; done) | (simp only [zfi, ↓reduceIte, Nat.reduceEqDiff]; rfl)), (by first | (simp only [zfi, ↓reduceIte, Nat.reduceEqDiff]; done) | (simp only [zfi, ↓reduceIte, Nat.reduceEqDiff]; rfl)), by omega⟩
end Go.Ab

/- Rows of terms in cells that are written: one taken, one put; turned round step by step. Conditions: places in range. -/
namespace Go.Ab
open Go.Proofs
set_option linter.unusedSimpArgs false

theorem cellsK_chunk (ks : List T) (i : Nat) (h : i < ks.length) : ((cellsK ks).drop (i * 6)).take 6 = cellsT ks[i] := by
  rw [cellsK_drop, List.drop_eq_getElem_cons h]
  simp only [cellsK]
  rw [List.take_append_of_le_length (by rw [cellsT_len]; exact Nat.le_refl _), List.take_of_length_le (by rw [cellsT_len]; exact Nat.le_refl _)]
theorem cellsK_put (ks : List T) (i : Nat) (t : T) (h : i < ks.length) : splice (cellsK ks) (i * 6) (cellsT t) = cellsK (ks.set i t) := by
  rw [List.set_eq_take_append_cons_drop, if_pos h, cellsK_append]
  simp only [splice, cellsK, cellsT_len, cellsK_take]
  rw [show i * 6 + 6 = (i + 1) * 6 by omega, cellsK_drop]
  simp
/-- Turned round up to a place, from both ends. -/
def RevN (ks : List T) (i : Nat) (xs : List T) : Prop := xs.length = ks.length ∧ ∀ j, j < ks.length → xs[j]? = if j < i ∨ ks.length ≤ j + i then ks[ks.length - 1 - j]? else ks[j]?
theorem rev_0 (ks : List T) : RevN ks 0 ks := ⟨rfl, fun j hj => by rw [if_neg (by omega)]⟩
theorem rev_step {ks xs : List T} {i : Nat} (h : RevN ks i xs) (hi : i + 1 + i < ks.length) :
    ∃ a b, xs[i]? = some a ∧ xs[ks.length - 1 - i]? = some b ∧ RevN ks (i + 1) ((xs.set i b).set (ks.length - 1 - i) a) := by
  obtain ⟨hl, hx⟩ := h
  have e1 := hx i (by omega)
  have e2 := hx (ks.length - 1 - i) (by omega)
  rw [if_neg (by omega)] at e1 e2
  have g1 : ks[i]? = some ks[i] := List.getElem?_eq_getElem (by omega)
  have g2 : ks[ks.length - 1 - i]? = some ks[ks.length - 1 - i] := List.getElem?_eq_getElem (by omega)
  refine ⟨ks[i], ks[ks.length - 1 - i], by rw [e1, g1], by rw [e2, g2], by simp [hl], fun j hj => ?_⟩
  by_cases h1 : j = i
  · subst h1
    rw [List.getElem?_set_ne (by omega), List.getElem?_set_self (by omega), if_pos (by omega), g2]
  by_cases h2 : j = ks.length - 1 - i
  · subst h2
    rw [List.getElem?_set_self (by simp; omega), if_pos (by omega), show ks.length - 1 - (ks.length - 1 - i) = i by omega, g1]
  rw [List.getElem?_set_ne (by omega), List.getElem?_set_ne (by omega), hx j hj]
  by_cases h3 : j < i ∨ ks.length ≤ j + i
  · rw [if_pos h3, if_pos (by omega)]
  · rw [if_neg h3, if_neg (by omega)]
theorem rev_end {ks xs : List T} {i : Nat} (h : RevN ks i xs) (hi : ks.length ≤ i + 1 + i) : xs = ks.reverse := by
  obtain ⟨hl, hx⟩ := h
  apply List.ext_getElem?
  intro j
  by_cases hj : j < ks.length
  · rw [hx j hj, List.getElem?_reverse hj]
    by_cases h3 : j < i ∨ ks.length ≤ j + i
    · rw [if_pos h3]
    · rw [if_neg h3, show ks.length - 1 - j = j by omega]
  · rw [List.getElem?_eq_none (by omega), List.getElem?_eq_none (by simp; omega)]
end Go.Ab
