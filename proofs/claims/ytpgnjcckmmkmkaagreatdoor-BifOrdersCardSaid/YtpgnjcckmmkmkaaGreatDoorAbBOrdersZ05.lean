/- Several texts put together: AbzT12, AbzT13, AbzT14. Conditions: as each part says. -/
import Derived.Test.YtpgnjcckmmkmkaaGreatDoorAbBOrdersZ04
/- What comparing terms needs. No conditions but limbs in range. -/
namespace Go.Ab
open Go.Proofs
set_option maxRecDepth 100000
set_option linter.unusedSimpArgs false

def three (a b : Int) : Int := if a < b then -1 else if b < a then 1 else 0
def or2 (a b : Int) : Int := if a = 0 then b else a
def strC (a b : List UInt8) : Int := if Op.bytesLess a b = true then -1 else if a = b then 0 else 1
theorem nanI_eq (n d : Nat) (x : Int) : evalFn Tryz.prog cfg0 n (d+1) 142 [.tree (.int .i64 x)] = some (.tree (.bool false), [[]]) := by
  rw [evalFn_go _ Tryz.func142 (by unfold Tryz.f142; rfl) (by unfold Tryz.f142; decide) (Nat.le_of_ble_eq_true (by unfold Tryz.f142; rfl)) (by kernel_rfl)]
  have q : (x != x) = false := bne_self_eq_false _
  simp only [zaa, zab, zac, zad, zae, zaf, zag, zah, zai, zaj, zak, zal, zam, zan, zao, zap, zaq, zar, zas, zat, zau, zav, zaw, zax, zay, zaz, zba, zbb, zbc, zbd, zbe, zbf, zbg, zbh, zbi, zbj, zbk, zbl, zbm, zbn, zbo, zbp, zbq, Nat.reduceBEq, Bool.or_self, Bool.or_false, Bool.or_true, Bool.and_true, Bool.and_false, Bool.true_and, Bool.false_and, Option.isNone_none, Option.isNone_some, Option.isSome_some, Option.isSome_none, zbr, zbs, zbt, zbu, zbv, zbw, zbx, zby, zbz, zca, zcb, zcc, zcd, zce, zcf, zcg, zch, zci, zcj, zck, zcl, zcm, zcn, zco, zcp, zcq, zcr, zcs, zct, zcu, zcv, zcw, zcx, zcy, zcz, zda, zdb, zdc, zdd, zde, zdf, zdg, zdh, zdi, zdj, zdk, zdl, zdm, zdn, zdo, zdp, zdq, zdr, zds, Option.getD_some, Option.getD_none, zfg, zfh, zfi, zfj, zfk, zfl, zfm, zfn, Option.map_some, Option.map_none, Option.bind_some, List.map_cons, List.map_nil, List.cons_append, List.nil_append, ↓reduceIte, Nat.reduceEqDiff, Nat.reduceAdd, decide_true, decide_false, Bool.true_eq_false, Bool.false_eq_true, env0, List.getElem?_cons_zero, List.getElem?_cons_succ, zdt, zdu, zdv, zdw, zdx, zdy, zdz, zea, ia22, ld31, zeb, zec, q]
  exact finish_b _ _ _ _ _ _ _ (by first | (simp only [zfn, ↓reduceIte, Nat.reduceEqDiff]; done) | (simp only [zfn, ↓reduceIte, Nat.reduceEqDiff]; rfl)) rfl
theorem cmpCI_eq (n d : Nat) (x y : Int) : evalFn Tryz.prog cfg0 n (d+2) 123 [.tree (.int .i64 x), .tree (.int .i64 y)] = some (.tree (.int .i64 (three x y)), [[], []]) := by
  rw [evalFn_go _ Tryz.func123 (by unfold Tryz.f123; rfl) (by unfold Tryz.f123; decide) (Nat.le_of_ble_eq_true (by unfold Tryz.f123; rfl)) (by kernel_rfl)]
  unfold three
  have c1 := fun D st x => callA_trees (cfg := cfg0) (d := D) (s := st) (f := 142) (vs := [.int .i64 x]) rfl (nanI_eq n d x)
  by_cases h : x < y
  · simp only [zaa, zab, zac, zad, zae, zaf, zag, zah, zai, zaj, zak, zal, zam, zan, zao, zap, zaq, zar, zas, zat, zau, zav, zaw, zax, zay, zaz, zba, zbb, zbc, zbd, zbe, zbf, zbg, zbh, zbi, zbj, zbk, zbl, zbm, zbn, zbo, zbp, zbq, Nat.reduceBEq, Bool.or_self, Bool.or_false, Bool.or_true, Bool.and_true, Bool.and_false, Bool.true_and, Bool.false_and, Option.isNone_none, Option.isNone_some, Option.isSome_some, Option.isSome_none, zbr, zbs, zbt, zbu, zbv, zbw, zbx, zby, zbz, zca, zcb, zcc, zcd, zce, zcf, zcg, zch, zci, zcj, zck, zcl, zcm, zcn, zco, zcp, zcq, zcr, zcs, zct, zcu, zcv, zcw, zcx, zcy, zcz, zda, zdb, zdc, zdd, zde, zdf, zdg, zdh, zdi, zdj, zdk, zdl, zdm, zdn, zdo, zdp, zdq, zdr, zds, Option.getD_some, Option.getD_none, zfg, zfh, zfi, zfj, zfk, zfl, zfm, zfn, Option.map_some, Option.map_none, Option.bind_some, List.map_cons, List.map_nil, List.cons_append, List.nil_append, ↓reduceIte, Nat.reduceEqDiff, Nat.reduceAdd, decide_true, decide_false, Bool.true_eq_false, Bool.false_eq_true, env0, List.getElem?_cons_zero, List.getElem?_cons_succ, zdt, zdu, zdv, zdw, zdx, zdy, zdz, zea, ia22, ld31, zeb, zec, c1, h]
    exact finish_i _ _ _ _ _ _ _ (by first | (simp only [zfn, ↓reduceIte, Nat.reduceEqDiff]; done) | (simp only [zfn, ↓reduceIte, Nat.reduceEqDiff]; rfl)) rfl
  · by_cases g : y < x
    · have g' : x > y := g
      simp only [zaa, zab, zac, zad, zae, zaf, zag, zah, zai, zaj, zak, zal, zam, zan, zao, zap, zaq, zar, zas, zat, zau, zav, zaw, zax, zay, zaz, zba, zbb, zbc, zbd, zbe, zbf, zbg, zbh, zbi, zbj, zbk, zbl, zbm, zbn, zbo, zbp, zbq, Nat.reduceBEq, Bool.or_self, Bool.or_false, Bool.or_true, Bool.and_true, Bool.and_false, Bool.true_and, Bool.false_and, Option.isNone_none, Option.isNone_some, Option.isSome_some, Option.isSome_none, zbr, zbs, zbt, zbu, zbv, zbw, zbx, zby, zbz, zca, zcb, zcc, zcd, zce, zcf, zcg, zch, zci, zcj, zck, zcl, zcm, zcn, zco, zcp, zcq, zcr, zcs, zct, zcu, zcv, zcw, zcx, zcy, zcz, zda, zdb, zdc, zdd, zde, zdf, zdg, zdh, zdi, zdj, zdk, zdl, zdm, zdn, zdo, zdp, zdq, zdr, zds, Option.getD_some, Option.getD_none, zfg, zfh, zfi, zfj, zfk, zfl, zfm, zfn, Option.map_some, Option.map_none, Option.bind_some, List.map_cons, List.map_nil, List.cons_append, List.nil_append, ↓reduceIte, Nat.reduceEqDiff, Nat.reduceAdd, decide_true, decide_false, Bool.true_eq_false, Bool.false_eq_true, env0, List.getElem?_cons_zero, List.getElem?_cons_succ, zdt, zdu, zdv, zdw, zdx, zdy, zdz, zea, ia22, ld31, zeb, zec, c1, h, g, g']
      exact finish_i _ _ _ _ _ _ _ (by first | (simp only [zfn, ↓reduceIte, Nat.reduceEqDiff]; done) | (simp only [zfn, ↓reduceIte, Nat.reduceEqDiff]; rfl)) rfl
    · have g' : ¬ x > y := g
      simp only [zaa, zab, zac, zad, zae, zaf, zag, zah, zai, zaj, zak, zal, zam, zan, zao, zap, zaq, zar, zas, zat, zau, zav, zaw, zax, zay, zaz, zba, zbb, zbc, zbd, zbe, zbf, zbg, zbh, zbi, zbj, zbk, zbl, zbm, zbn, zbo, zbp, zbq, Nat.reduceBEq, Bool.or_self, Bool.or_false, Bool.or_true, Bool.and_true, Bool.and_false, Bool.true_and, Bool.false_and, Option.isNone_none, Option.isNone_some, Option.isSome_some, Option.isSome_none, zbr, zbs, zbt, zbu, zbv, zbw, zbx, zby, zbz, zca, zcb, zcc, zcd, zce, zcf, zcg, zch, zci, zcj, zck, zcl, zcm, zcn, zco, zcp, zcq, zcr, zcs, zct, zcu, zcv, zcw, zcx, zcy, zcz, zda, zdb, zdc, zdd, zde, zdf, zdg, zdh, zdi, zdj, zdk, zdl, zdm, zdn, zdo, zdp, zdq, zdr, zds, Option.getD_some, Option.getD_none, zfg, zfh, zfi, zfj, zfk, zfl, zfm, zfn, Option.map_some, Option.map_none, Option.bind_some, List.map_cons, List.map_nil, List.cons_append, List.nil_append, ↓reduceIte, Nat.reduceEqDiff, Nat.reduceAdd, decide_true, decide_false, Bool.true_eq_false, Bool.false_eq_true, env0, List.getElem?_cons_zero, List.getElem?_cons_succ, zdt, zdu, zdv, zdw, zdx, zdy, zdz, zea, ia22, ld31, zeb, zec, c1, h, g, g']
      exact finish_i _ _ _ _ _ _ _ (by first | (simp only [zfn, ↓reduceIte, Nat.reduceEqDiff]; done) | (simp only [zfn, ↓reduceIte, Nat.reduceEqDiff]; rfl)) rfl
theorem cmpCS_eq (n d : Nat) (x y : List UInt8) : evalFn Tryz.prog cfg0 n (d+2) 126 [.tree (.str x), .tree (.str y)] = some (.tree (.int .i64 (strC x y)), [[], []]) := by
  rw [evalFn_go _ Tryz.func126 (by unfold Tryz.f126; rfl) (by unfold Tryz.f126; decide) (Nat.le_of_ble_eq_true (by unfold Tryz.f126; rfl)) (by kernel_rfl)]
  unfold strC
  have c1 := fun D st x => callA_trees (cfg := cfg0) (d := D) (s := st) (f := 144) (vs := [.str x]) rfl (nanS_eq n d x)
  cases h : Op.bytesLess x y with
  | true =>
    simp only [zaa, zab, zac, zad, zae, zaf, zag, zah, zai, zaj, zak, zal, zam, zan, zao, zap, zaq, zar, zas, zat, zau, zav, zaw, zax, zay, zaz, zba, zbb, zbc, zbd, zbe, zbf, zbg, zbh, zbi, zbj, zbk, zbl, zbm, zbn, zbo, zbp, zbq, Nat.reduceBEq, Bool.or_self, Bool.or_false, Bool.or_true, Bool.and_true, Bool.and_false, Bool.true_and, Bool.false_and, Option.isNone_none, Option.isNone_some, Option.isSome_some, Option.isSome_none, zbr, zbs, zbt, zbu, zbv, zbw, zbx, zby, zbz, zca, zcb, zcc, zcd, zce, zcf, zcg, zch, zci, zcj, zck, zcl, zcm, zcn, zco, zcp, zcq, zcr, zcs, zct, zcu, zcv, zcw, zcx, zcy, zcz, zda, zdb, zdc, zdd, zde, zdf, zdg, zdh, zdi, zdj, zdk, zdl, zdm, zdn, zdo, zdp, zdq, zdr, zds, Option.getD_some, Option.getD_none, zfg, zfh, zfi, zfj, zfk, zfl, zfm, zfn, Option.map_some, Option.map_none, Option.bind_some, List.map_cons, List.map_nil, List.cons_append, List.nil_append, ↓reduceIte, Nat.reduceEqDiff, Nat.reduceAdd, decide_true, decide_false, Bool.true_eq_false, Bool.false_eq_true, env0, List.getElem?_cons_zero, List.getElem?_cons_succ, s_lssS, s_gtrS, c1, h]
    exact finish_i _ _ _ _ _ _ _ (by first | (simp only [zfn, ↓reduceIte, Nat.reduceEqDiff]; done) | (simp only [zfn, ↓reduceIte, Nat.reduceEqDiff]; rfl)) rfl
  | false =>
    by_cases g : x = y
    · have g' : (x == y) = true := beq_iff_eq.mpr g
      simp only [zaa, zab, zac, zad, zae, zaf, zag, zah, zai, zaj, zak, zal, zam, zan, zao, zap, zaq, zar, zas, zat, zau, zav, zaw, zax, zay, zaz, zba, zbb, zbc, zbd, zbe, zbf, zbg, zbh, zbi, zbj, zbk, zbl, zbm, zbn, zbo, zbp, zbq, Nat.reduceBEq, Bool.or_self, Bool.or_false, Bool.or_true, Bool.and_true, Bool.and_false, Bool.true_and, Bool.false_and, Option.isNone_none, Option.isNone_some, Option.isSome_some, Option.isSome_none, zbr, zbs, zbt, zbu, zbv, zbw, zbx, zby, zbz, zca, zcb, zcc, zcd, zce, zcf, zcg, zch, zci, zcj, zck, zcl, zcm, zcn, zco, zcp, zcq, zcr, zcs, zct, zcu, zcv, zcw, zcx, zcy, zcz, zda, zdb, zdc, zdd, zde, zdf, zdg, zdh, zdi, zdj, zdk, zdl, zdm, zdn, zdo, zdp, zdq, zdr, zds, Option.getD_some, Option.getD_none, zfg, zfh, zfi, zfj, zfk, zfl, zfm, zfn, Option.map_some, Option.map_none, Option.bind_some, List.map_cons, List.map_nil, List.cons_append, List.nil_append, ↓reduceIte, Nat.reduceEqDiff, Nat.reduceAdd, decide_true, decide_false, Bool.true_eq_false, Bool.false_eq_true, env0, List.getElem?_cons_zero, List.getElem?_cons_succ, s_lssS, s_gtrS, c1, h, g', Bool.false_or, Bool.not_true, if_pos g]
      exact finish_i _ _ _ _ _ _ _ (by first | (simp only [zfn, ↓reduceIte, Nat.reduceEqDiff]; done) | (simp only [zfn, ↓reduceIte, Nat.reduceEqDiff]; rfl)) rfl
    · have g' : (x == y) = false := beq_eq_false_iff_ne.mpr g
      simp only [zaa, zab, zac, zad, zae, zaf, zag, zah, zai, zaj, zak, zal, zam, zan, zao, zap, zaq, zar, zas, zat, zau, zav, zaw, zax, zay, zaz, zba, zbb, zbc, zbd, zbe, zbf, zbg, zbh, zbi, zbj, zbk, zbl, zbm, zbn, zbo, zbp, zbq, Nat.reduceBEq, Bool.or_self, Bool.or_false, Bool.or_true, Bool.and_true, Bool.and_false, Bool.true_and, Bool.false_and, Option.isNone_none, Option.isNone_some, Option.isSome_some, Option.isSome_none, zbr, zbs, zbt, zbu, zbv, zbw, zbx, zby, zbz, zca, zcb, zcc, zcd, zce, zcf, zcg, zch, zci, zcj, zck, zcl, zcm, zcn, zco, zcp, zcq, zcr, zcs, zct, zcu, zcv, zcw, zcx, zcy, zcz, zda, zdb, zdc, zdd, zde, zdf, zdg, zdh, zdi, zdj, zdk, zdl, zdm, zdn, zdo, zdp, zdq, zdr, zds, Option.getD_some, Option.getD_none, zfg, zfh, zfi, zfj, zfk, zfl, zfm, zfn, Option.map_some, Option.map_none, Option.bind_some, List.map_cons, List.map_nil, List.cons_append, List.nil_append, ↓reduceIte, Nat.reduceEqDiff, Nat.reduceAdd, decide_true, decide_false, Bool.true_eq_false, Bool.false_eq_true, env0, List.getElem?_cons_zero, List.getElem?_cons_succ, s_lssS, s_gtrS, c1, h, g', Bool.false_or, Bool.not_false, if_neg g]
      exact finish_i _ _ _ _ _ _ _ (by first | (simp only [zfn, ↓reduceIte, Nat.reduceEqDiff]; done) | (simp only [zfn, ↓reduceIte, Nat.reduceEqDiff]; rfl)) rfl
theorem tk33 : tkOf Tryz.prog 56 = .sl 3 := by kernel_rfl
theorem len33 (s : St) (xs : List AV) (m : Nat) (g : Grip) : lenA Tryz.prog 56 s (.sl xs m g) = some (.int .i64 (m : Int)) := by simp only [lenA, tk33]
theorem ia33 (s : St) (xs : List AV) (m : Nat) (g : Grip) (i : Nat) (h : i < m) : indexAddrA Tryz.prog 56 s (.sl xs m g) (.int .i64 (i : Int)) = some (.rptr (xs.drop i)) := by
  simp only [indexAddrA, tk33, eszTi, Option.bind_some, Int.toNat_natCast, Nat.mul_one]
  rw [if_pos ⟨by omega, by omega⟩]
theorem ld33 (s : St) (x : AV) (r : List AV) : loadA Tryz.prog 3 s (.rptr (x :: r)) = some x := by
  simp only [loadA, partA, shTi]
  rfl
theorem orI_eq (n d : Nat) (hn : 3 ≤ n) (x y : Int) (g : Grip) : evalFn Tryz.prog cfg0 n (d+1) 127 [.tree (.sl [.int .i64 x, .int .i64 y] 2 g)] = some (.tree (.int .i64 (or2 x y)), [[]]) := by
  rw [evalFn_go _ Tryz.func127 (by unfold Tryz.f127; rfl) (by unfold Tryz.f127; decide) (Nat.le_of_ble_eq_true (by unfold Tryz.f127; rfl)) (by kernel_rfl)]
  simp only [zaa, zab, zac, zad, zae, zaf, zag, zah, zai, zaj, zak, zal, zam, zan, zao, zap, zaq, zar, zas, zat, zau, zav, zaw, zax, zay, zaz, zba, zbb, zbc, zbd, zbe, zbf, zbg, zbh, zbi, zbj, zbk, zbl, zbm, zbn, zbo, zbp, zbq, Nat.reduceBEq, Bool.or_self, Bool.or_false, Bool.or_true, Bool.and_true, Bool.and_false, Bool.true_and, Bool.false_and, Option.isNone_none, Option.isNone_some, Option.isSome_some, Option.isSome_none, zbr, zbs, zbt, zbu, zbv, zbw, zbx, zby, zbz, zca, zcb, zcc, zcd, zce, zcf, zcg, zch, zci, zcj, zck, zcl, zcm, zcn, zco, zcp, zcq, zcr, zcs, zct, zcu, zcv, zcw, zcx, zcy, zcz, zda, zdb, zdc, zdd, zde, zdf, zdg, zdh, zdi, zdj, zdk, zdl, zdm, zdn, zdo, zdp, zdq, zdr, zds, Option.getD_some, Option.getD_none, zfg, zfh, zfi, zfj, zfk, zfl, zfm, zfn, Option.map_some, Option.map_none, Option.bind_some, List.map_cons, List.map_nil, List.cons_append, List.nil_append, ↓reduceIte, Nat.reduceEqDiff, Nat.reduceAdd, decide_true, decide_false, Bool.true_eq_false, Bool.false_eq_true, env0, List.getElem?_cons_zero, List.getElem?_cons_succ, zdt, zdu, zdv, zdw, zdx, zdy, zdz, zea, ia22, ld31, zeb, zec, len33, den_loop]
  refine loop_ends (X := Nat) (fun i env s => env 3 = .int .i64 0 ∧ env 6 = .sl [.int .i64 x, .int .i64 y] 2 g ∧ env 7 = .int .i64 2 ∧ env 8 = .int .i64 (i : Int) ∧ i ≤ 2 ∧ (0 < i → x = 0) ∧ (1 < i → y = 0)) (fun i => 2 - i) (fun _ => (.tree (.int .i64 (or2 x y)), [[]])) ?_ n 0 _ _ (by omega) ⟨(by first | (simp only [zfn, ↓reduceIte, Nat.reduceEqDiff]; done) | (simp only [zfn, ↓reduceIte, Nat.reduceEqDiff]; rfl)), (by first | (simp only [zfn, ↓reduceIte, Nat.reduceEqDiff]; done) | (simp only [zfn, ↓reduceIte, Nat.reduceEqDiff]; rfl)), (by first | (simp only [zfn, ↓reduceIte, Nat.reduceEqDiff]; done) | (simp only [zfn, ↓reduceIte, Nat.reduceEqDiff]; rfl)), (by first | (simp only [zfn, ↓reduceIte, Nat.reduceEqDiff]; done) | (simp only [zfn, ↓reduceIte, Nat.reduceEqDiff]; rfl)), by omega, by intro h; omega, by intro h; omega⟩
  intro k i hx ih env st ⟨e3, e6, e7, e8, hi, h0, h1⟩
  have hc : i = 0 ∨ i = 1 ∨ i = 2 := by omega
  rcases hc with rfl | rfl | rfl
  · have q1 : ((0 : Nat) : Int) < 2 := by decide
    have ia := fun st => ia33 st [.int .i64 x, .int .i64 y] 2 g 0 (by decide)
    simp only [List.drop_zero] at ia
    have f5 := i_add Tryz.prog 3 ((0 : Nat) : Int) 1 (by decide) (by decide)
    by_cases g0 : x = 0
    · have g' : (x != 0) = false := by rw [g0]; rfl
      simp only [zaa, zab, zac, zad, zae, zaf, zag, zah, zai, zaj, zak, zal, zam, zan, zao, zap, zaq, zar, zas, zat, zau, zav, zaw, zax, zay, zaz, zba, zbb, zbc, zbd, zbe, zbf, zbg, zbh, zbi, zbj, zbk, zbl, zbm, zbn, zbo, zbp, zbq, Nat.reduceBEq, Bool.or_self, Bool.or_false, Bool.or_true, Bool.and_true, Bool.and_false, Bool.true_and, Bool.false_and, Option.isNone_none, Option.isNone_some, Option.isSome_some, Option.isSome_none, zbr, zbs, zbt, zbu, zbv, zbw, zbx, zby, zbz, zca, zcb, zcc, zcd, zce, zcf, zcg, zch, zci, zcj, zck, zcl, zcm, zcn, zco, zcp, zcq, zcr, zcs, zct, zcu, zcv, zcw, zcx, zcy, zcz, zda, zdb, zdc, zdd, zde, zdf, zdg, zdh, zdi, zdj, zdk, zdl, zdm, zdn, zdo, zdp, zdq, zdr, zds, Option.getD_some, Option.getD_none, zfg, zfh, zfi, zfj, zfk, zfl, zfm, zfn, Option.map_some, Option.map_none, Option.bind_some, List.map_cons, List.map_nil, List.cons_append, List.nil_append, ↓reduceIte, Nat.reduceEqDiff, Nat.reduceAdd, decide_true, decide_false, Bool.true_eq_false, Bool.false_eq_true, zdt, zdu, zdv, zdw, zdx, zdy, zdz, zea, ia22, ld31, zeb, zec, e3, e6, e7, e8, q1, ia, ld33, g', f5]
      exact ih 1 _ _ (by omega) rfl ⟨(by first | (simp only [zfn, ↓reduceIte, Nat.reduceEqDiff, e3]; done) | (simp only [zfn, ↓reduceIte, Nat.reduceEqDiff, e3]; rfl)), (by first | (simp only [zfn, ↓reduceIte, Nat.reduceEqDiff, e6]; done) | (simp only [zfn, ↓reduceIte, Nat.reduceEqDiff, e6]; rfl)), (by first | (simp only [zfn, ↓reduceIte, Nat.reduceEqDiff, e7]; done) | (simp only [zfn, ↓reduceIte, Nat.reduceEqDiff, e7]; rfl)), (by first | (simp only [zfn, ↓reduceIte, Nat.reduceEqDiff]; done) | (simp only [zfn, ↓reduceIte, Nat.reduceEqDiff]; rfl)), by omega, fun _ => g0, fun h => by omega⟩
    · have g' : (x != 0) = true := by rw [bne_iff_ne]; exact g0
      have hr : or2 x y = x := if_neg g0
      rw [hr]
      simp only [zaa, zab, zac, zad, zae, zaf, zag, zah, zai, zaj, zak, zal, zam, zan, zao, zap, zaq, zar, zas, zat, zau, zav, zaw, zax, zay, zaz, zba, zbb, zbc, zbd, zbe, zbf, zbg, zbh, zbi, zbj, zbk, zbl, zbm, zbn, zbo, zbp, zbq, Nat.reduceBEq, Bool.or_self, Bool.or_false, Bool.or_true, Bool.and_true, Bool.and_false, Bool.true_and, Bool.false_and, Option.isNone_none, Option.isNone_some, Option.isSome_some, Option.isSome_none, zbr, zbs, zbt, zbu, zbv, zbw, zbx, zby, zbz, zca, zcb, zcc, zcd, zce, zcf, zcg, zch, zci, zcj, zck, zcl, zcm, zcn, zco, zcp, zcq, zcr, zcs, zct, zcu, zcv, zcw, zcx, zcy, zcz, zda, zdb, zdc, zdd, zde, zdf, zdg, zdh, zdi, zdj, zdk, zdl, zdm, zdn, zdo, zdp, zdq, zdr, zds, Option.getD_some, Option.getD_none, zfg, zfh, zfi, zfj, zfk, zfl, zfm, zfn, Option.map_some, Option.map_none, Option.bind_some, List.map_cons, List.map_nil, List.cons_append, List.nil_append, ↓reduceIte, Nat.reduceEqDiff, Nat.reduceAdd, decide_true, decide_false, Bool.true_eq_false, Bool.false_eq_true, zdt, zdu, zdv, zdw, zdx, zdy, zdz, zea, ia22, ld31, zeb, zec, e3, e6, e7, e8, q1, ia, ld33, g', f5]
      exact finish_i _ _ _ _ _ _ _ (by first | (simp only [zfn, ↓reduceIte, Nat.reduceEqDiff]; done) | (simp only [zfn, ↓reduceIte, Nat.reduceEqDiff]; rfl)) rfl
  · have q1 : ((1 : Nat) : Int) < 2 := by decide
    have ia := fun st => ia33 st [.int .i64 x, .int .i64 y] 2 g 1 (by decide)
    simp only [List.drop_succ_cons, List.drop_zero] at ia
    have f5 := i_add Tryz.prog 3 ((1 : Nat) : Int) 1 (by decide) (by decide)
    have gx := h0 (by decide)
    by_cases g0 : y = 0
    · have g' : (y != 0) = false := by rw [g0]; rfl
      simp only [zaa, zab, zac, zad, zae, zaf, zag, zah, zai, zaj, zak, zal, zam, zan, zao, zap, zaq, zar, zas, zat, zau, zav, zaw, zax, zay, zaz, zba, zbb, zbc, zbd, zbe, zbf, zbg, zbh, zbi, zbj, zbk, zbl, zbm, zbn, zbo, zbp, zbq, Nat.reduceBEq, Bool.or_self, Bool.or_false, Bool.or_true, Bool.and_true, Bool.and_false, Bool.true_and, Bool.false_and, Option.isNone_none, Option.isNone_some, Option.isSome_some, Option.isSome_none, zbr, zbs, zbt, zbu, zbv, zbw, zbx, zby, zbz, zca, zcb, zcc, zcd, zce, zcf, zcg, zch, zci, zcj, zck, zcl, zcm, zcn, zco, zcp, zcq, zcr, zcs, zct, zcu, zcv, zcw, zcx, zcy, zcz, zda, zdb, zdc, zdd, zde, zdf, zdg, zdh, zdi, zdj, zdk, zdl, zdm, zdn, zdo, zdp, zdq, zdr, zds, Option.getD_some, Option.getD_none, zfg, zfh, zfi, zfj, zfk, zfl, zfm, zfn, Option.map_some, Option.map_none, Option.bind_some, List.map_cons, List.map_nil, List.cons_append, List.nil_append, ↓reduceIte, Nat.reduceEqDiff, Nat.reduceAdd, decide_true, decide_false, Bool.true_eq_false, Bool.false_eq_true, zdt, zdu, zdv, zdw, zdx, zdy, zdz, zea, ia22, ld31, zeb, zec, e3, e6, e7, e8, q1, ia, ld33, g', f5]
      exact ih 2 _ _ (by omega) rfl ⟨(by first | (simp only [zfn, ↓reduceIte, Nat.reduceEqDiff, e3]; done) | (simp only [zfn, ↓reduceIte, Nat.reduceEqDiff, e3]; rfl)), (by first | (simp only [zfn, ↓reduceIte, Nat.reduceEqDiff, e6]; done) | (simp only [zfn, ↓reduceIte, Nat.reduceEqDiff, e6]; rfl)), (by first | (simp only [zfn, ↓reduceIte, Nat.reduceEqDiff, e7]; done) | (simp only [zfn, ↓reduceIte, Nat.reduceEqDiff, e7]; rfl)), (by first | (simp only [zfn, ↓reduceIte, Nat.reduceEqDiff]; done) | (simp only [zfn, ↓reduceIte, Nat.reduceEqDiff]; rfl)), by omega, fun _ => gx, fun h => g0⟩
    · have g' : (y != 0) = true := by rw [bne_iff_ne]; exact g0
      have hr : or2 x y = y := if_pos gx
      rw [hr]
      simp only [zaa, zab, zac, zad, zae, zaf, zag, zah, zai, zaj, zak, zal, zam, zan, zao, zap, zaq, zar, zas, zat, zau, zav, zaw, zax, zay, zaz, zba, zbb, zbc, zbd, zbe, zbf, zbg, zbh, zbi, zbj, zbk, zbl, zbm, zbn, zbo, zbp, zbq, Nat.reduceBEq, Bool.or_self, Bool.or_false, Bool.or_true, Bool.and_true, Bool.and_false, Bool.true_and, Bool.false_and, Option.isNone_none, Option.isNone_some, Option.isSome_some, Option.isSome_none, zbr, zbs, zbt, zbu, zbv, zbw, zbx, zby, zbz, zca, zcb, zcc, zcd, zce, zcf, zcg, zch, zci, zcj, zck, zcl, zcm, zcn, zco, zcp, zcq, zcr, zcs, zct, zcu, zcv, zcw, zcx, zcy, zcz, zda, zdb, zdc, zdd, zde, zdf, zdg, zdh, zdi, zdj, zdk, zdl, zdm, zdn, zdo, zdp, zdq, zdr, zds, Option.getD_some, Option.getD_none, zfg, zfh, zfi, zfj, zfk, zfl, zfm, zfn, Option.map_some, Option.map_none, Option.bind_some, List.map_cons, List.map_nil, List.cons_append, List.nil_append, ↓reduceIte, Nat.reduceEqDiff, Nat.reduceAdd, decide_true, decide_false, Bool.true_eq_false, Bool.false_eq_true, zdt, zdu, zdv, zdw, zdx, zdy, zdz, zea, ia22, ld31, zeb, zec, e3, e6, e7, e8, q1, ia, ld33, g', f5]
      exact finish_i _ _ _ _ _ _ _ (by first | (simp only [zfn, ↓reduceIte, Nat.reduceEqDiff]; done) | (simp only [zfn, ↓reduceIte, Nat.reduceEqDiff]; rfl)) rfl
  · have q1 : ¬ ((2 : Nat) : Int) < 2 := by decide
    have hr : or2 x y = 0 := by rw [or2, if_pos (h0 (by decide))]; exact h1 (by decide)
    rw [hr]
    simp only [zaa, zab, zac, zad, zae, zaf, zag, zah, zai, zaj, zak, zal, zam, zan, zao, zap, zaq, zar, zas, zat, zau, zav, zaw, zax, zay, zaz, zba, zbb, zbc, zbd, zbe, zbf, zbg, zbh, zbi, zbj, zbk, zbl, zbm, zbn, zbo, zbp, zbq, Nat.reduceBEq, Bool.or_self, Bool.or_false, Bool.or_true, Bool.and_true, Bool.and_false, Bool.true_and, Bool.false_and, Option.isNone_none, Option.isNone_some, Option.isSome_some, Option.isSome_none, zbr, zbs, zbt, zbu, zbv, zbw, zbx, zby, zbz, zca, zcb, zcc, zcd, zce, zcf, zcg, zch, zci, zcj, zck, zcl, zcm, zcn, zco, zcp, zcq, zcr, zcs, zct, zcu, zcv, zcw, zcx, zcy, zcz, zda, zdb, zdc, zdd, zde, zdf, zdg, zdh, zdi, zdj, zdk, zdl, zdm, zdn, zdo, zdp, zdq, zdr, zds, Option.getD_some, Option.getD_none, zfg, zfh, zfi, zfj, zfk, zfl, zfm, zfn, Option.map_some, Option.map_none, Option.bind_some, List.map_cons, List.map_nil, List.cons_append, List.nil_append, ↓reduceIte, Nat.reduceEqDiff, Nat.reduceAdd, decide_true, decide_false, Bool.true_eq_false, Bool.false_eq_true, zdt, zdu, zdv, zdw, zdx, zdy, zdz, zea, ia22, ld31, zeb, zec, e3, e6, e7, e8, q1]
    exact finish_i _ _ _ _ _ _ _ (by first | (simp only [zfn, ↓reduceIte, Nat.reduceEqDiff]; done) | (simp only [zfn, ↓reduceIte, Nat.reduceEqDiff]; rfl)) rfl
def rankI (k : Int) : Int := if k = 1 then 0 else if k = 2 then 1 else if k = 3 then 4 else if k = 4 then 5 else if k = 5 then 3 else 6
theorem rkx1 (d : Nat) : evalFn Tryz.prog cfg0 100000 (d+2) 124 [.tree (.int .i64 1)] = some (.tree (.int .i64 0), [[]]) := by kernel_rfl
theorem rkx2 (d : Nat) : evalFn Tryz.prog cfg0 100000 (d+2) 124 [.tree (.int .i64 2)] = some (.tree (.int .i64 1), [[]]) := by kernel_rfl
theorem rkx3 (d : Nat) : evalFn Tryz.prog cfg0 100000 (d+2) 124 [.tree (.int .i64 3)] = some (.tree (.int .i64 4), [[]]) := by kernel_rfl
theorem rkx4 (d : Nat) : evalFn Tryz.prog cfg0 100000 (d+2) 124 [.tree (.int .i64 4)] = some (.tree (.int .i64 5), [[]]) := by kernel_rfl
theorem rkx5 (d : Nat) : evalFn Tryz.prog cfg0 100000 (d+2) 124 [.tree (.int .i64 5)] = some (.tree (.int .i64 3), [[]]) := by kernel_rfl
theorem rkx6 (d : Nat) : evalFn Tryz.prog cfg0 100000 (d+2) 124 [.tree (.int .i64 6)] = some (.tree (.int .i64 6), [[]]) := by kernel_rfl
theorem rank_eq (d : Nat) (k : Int) (hk : 1 ≤ k ∧ k ≤ 6) : evalFn Tryz.prog cfg0 100000 (d+2) 124 [.tree (.int .i64 k)] = some (.tree (.int .i64 (rankI k)), [[]]) := by
  have hc : k = 1 ∨ k = 2 ∨ k = 3 ∨ k = 4 ∨ k = 5 ∨ k = 6 := by omega
  rcases hc with rfl | rfl | rfl | rfl | rfl | rfl
  · exact rkx1 d
  · exact rkx2 d
  · exact rkx3 d
  · exact rkx4 d
  · exact rkx5 d
  · exact rkx6 d
theorem finish_cT (k : Bool) (xs : List Arg) (a p e : Nat) (u : T) (env : Env) (s : St) (os : List (List AV)) (ha : env a = .ptr p e 0) (hs : s p = ⟨e, .buf (cellsT u)⟩) (ho : outsA s 0 xs = some os) :
    finishP Tryz.prog k xs #[.cell a 29] env s = some (.tree (encT u), os) := by
  have hl : loadA Tryz.prog 29 s (env a) = some (.agg (cellsT u)) := by rw [ha, zek, hs, ldT_u, if_pos rfl]
  simp [finishP, isTmpR, hl, settle, ho, encT]
theorem kid_eq (n d : Nat) (k : Int) (b : Bool) (lg : Gk) (l : List Nat) (s : List UInt8) (m : Int) (kg : Gk) (ks : List T) (i : Nat) (t : T) (r : List T) (hi : ks.drop i = t :: r) :
    evalFn Tryz.prog cfg0 n (d+1) 122 [.tree (encT (.mk k b lg l s m kg ks)), .tree (.int .i64 (i : Int))] = some (.tree (encT t), [[], []]) := by
  rw [evalFn_go _ Tryz.func122 (by unfold Tryz.f122; rfl) (by unfold Tryz.f122; decide) (Nat.le_of_ble_eq_true (by unfold Tryz.f122; rfl)) (by kernel_rfl)]
  have hil : i < ks.length := by have := congrArg List.length hi; simp only [List.length_drop, List.length_cons] at this; omega
  have q1 : (i : Int) < (ks.length : Int) := by omega
  have ia := fun st => ia_K st ks (gr kg) i hil
  rw [hi] at ia
  have ld := fun st => ld_K st t r
  simp only [encT] at ld
  simp only [zaa, zab, zac, zad, zae, zaf, zag, zah, zai, zaj, zak, zal, zam, zan, zao, zap, zaq, zar, zas, zat, zau, zav, zaw, zax, zay, zaz, zba, zbb, zbc, zbd, zbe, zbf, zbg, zbh, zbi, zbj, zbk, zbl, zbm, zbn, zbo, zbp, zbq, Nat.reduceBEq, Bool.or_self, Bool.or_false, Bool.or_true, Bool.and_true, Bool.and_false, Bool.true_and, Bool.false_and, Option.isNone_none, Option.isNone_some, Option.isSome_some, Option.isSome_none, zbr, zbs, zbt, zbu, zbv, zbw, zbx, zby, zbz, zca, zcb, zcc, zcd, zce, zcf, zcg, zch, zci, zcj, zck, zcl, zcm, zcn, zco, zcp, zcq, zcr, zcs, zct, zcu, zcv, zcw, zcx, zcy, zcz, zda, zdb, zdc, zdd, zde, zdf, zdg, zdh, zdi, zdj, zdk, zdl, zdm, zdn, zdo, zdp, zdq, zdr, zds, Option.getD_some, Option.getD_none, zfg, zfh, zfi, zfj, zfk, zfl, zfm, zfn, Option.map_some, Option.map_none, Option.bind_some, List.map_cons, List.map_nil, List.cons_append, List.nil_append, ↓reduceIte, Nat.reduceEqDiff, Nat.reduceAdd, decide_true, decide_false, Bool.true_eq_false, Bool.false_eq_true, env0, List.getElem?_cons_zero, List.getElem?_cons_succ, zdt, zdu, zdv, zdw, zdx, zdy, zdz, zea, ia22, ld31, zeb, zec, zed, zee, zef, zeg, zeh, zei, zej, zek, zel, zem, zen, zeo, zep, fa_0, fa_1, zeq, bd_0, bd_2, zer, fd_1, zes, Nat.zero_add, encT, cellsT, zeroT, faT_4, ldT_4, lenTk, q1, ia, ld, st_Tt, stT_6]
  exact finish_cT _ _ _ _ _ t _ _ _ (by first | (simp only [zfn, ↓reduceIte, Nat.reduceEqDiff]; done) | (simp only [zfn, ↓reduceIte, Nat.reduceEqDiff]; rfl)) (by first | (simp only [zfn, ↓reduceIte, Nat.reduceEqDiff]; done) | (simp only [zfn, ↓reduceIte, Nat.reduceEqDiff]; rfl)) rfl
end Go.Ab

/- term.Cmp upon terms that may be. Conditions: terms that may be; so many nodes at most. -/
namespace Go.Ab
open Go.Proofs
set_option maxRecDepth 100000
set_option linter.unusedSimpArgs false

mutual
/-- A term that is right by itself, everywhere; limbs in range. -/
def goodT : T → Prop
  | .mk k b lg l s n kg ks => Limbs l ∧ ownT (.mk k b lg l s n kg ks) = true ∧ goodK ks
def goodK : List T → Prop
  | [] => True
  | t :: r => goodT t ∧ goodK r
end
def nilT0 : T := .mk 3 false .n [] [] 0 .n []
def kindT : T → Int
  | .mk k _ _ _ _ _ _ _ => k
def numT : T → Int
  | .mk _ b _ l _ _ _ _ => numZ b l
def strT : T → List UInt8
  | .mk _ _ _ _ s _ _ _ => s
def kidsT : T → List T
  | .mk _ _ _ _ _ _ _ ks => ks
mutual
def cmpT : T → T → Int
  | .mk k b _ l s _ _ ks, u =>
    if k = 4 ∧ kindT u = 4 then cmpC ks (kidsT u)
    else or2 (three (rankI k) (rankI (kindT u))) (if k = 1 then cmpI (numZ b l) (numT u) else if k = 2 ∨ k = 6 then strC s (strT u) else if k = 5 then or2 (three ks.length (kidsT u).length) (cmpL ks (kidsT u)) else 0)
def cmpC : List T → List T → Int
  | [], _ => 0
  | x :: r, v => or2 (cmpT x (v.headD nilT0)) (cmpD r v.tail)
def cmpD : List T → List T → Int
  | [], _ => 0
  | x :: _, v => cmpT x (v.headD nilT0)
def cmpL : List T → List T → Int
  | [], [] => 0
  | [], _ :: _ => -1
  | _ :: _, [] => 1
  | x :: r, y :: q => or2 (cmpT x y) (cmpL r q)
end
theorem good_kind {k : Int} {b : Bool} {lg : Gk} {l : List Nat} {s : List UInt8} {n : Int} {kg : Gk} {ks : List T} (h : goodT (.mk k b lg l s n kg ks)) : 1 ≤ k ∧ k ≤ 6 := by
  simp only [goodT, ownT, Bool.and_eq_true, decide_eq_true_eq] at h
  exact h.2.1.1
theorem goodK_at : ∀ (ks : List T) (i : Nat) (t : T) (r : List T), ks.drop i = t :: r → goodK ks → goodT t
  | [], i, t, r, h, _ => by simp at h
  | a :: q, 0, t, r, h, hw => by simp only [List.drop_zero, List.cons.injEq] at h; obtain ⟨rfl, rfl⟩ := h; simp only [goodK] at hw; exact hw.1
  | a :: q, i + 1, t, r, h, hw => by simp only [goodK] at hw; exact goodK_at q i t r (by simpa using h) hw.2
theorem or2_0 {a b : Int} (h : a = 0) : or2 a b = b := if_pos h
theorem or2_n {a b : Int} (h : a ≠ 0) : or2 a b = a := if_neg h
set_option maxHeartbeats 8000000 in
theorem cmpF_eq (d : Nat) (us vs : List T) (ag bg : Gk) (ha : us.length ≤ 1000)
    (h : ∀ i j x y q r, us.drop i = x :: q → vs.drop j = y :: r → evalFn Tryz.prog cfg0 100000 d 96 [.tree (encT x), .tree (encT y)] = some (.tree (.int .i64 (cmpT x y)), [[], []])) :
    evalFn Tryz.prog cfg0 100000 (d+1) 145 [.tree (.sl (cellsK us) us.length (gr ag)), .tree (.sl (cellsK vs) vs.length (gr bg)), .tree (.fn 96 [])] = some (.tree (.int .i64 (cmpL us vs)), [[], [], []]) := by
  rw [evalFn_go _ Tryz.func145 (by unfold Tryz.f145; rfl) (by unfold Tryz.f145; decide) (Nat.le_of_ble_eq_true (by unfold Tryz.f145; rfl)) (by kernel_rfl)]
  simp only [zaa, zab, zac, zad, zae, zaf, zag, zah, zai, zaj, zak, zal, zam, zan, zao, zap, zaq, zar, zas, zat, zau, zav, zaw, zax, zay, zaz, zba, zbb, zbc, zbd, zbe, zbf, zbg, zbh, zbi, zbj, zbk, zbl, zbm, zbn, zbo, zbp, zbq, Nat.reduceBEq, Bool.or_self, Bool.or_false, Bool.or_true, Bool.and_true, Bool.and_false, Bool.true_and, Bool.false_and, Option.isNone_none, Option.isNone_some, Option.isSome_some, Option.isSome_none, zbr, zbs, zbt, zbu, zbv, zbw, zbx, zby, zbz, zca, zcb, zcc, zcd, zce, zcf, zcg, zch, zci, zcj, zck, zcl, zcm, zcn, zco, zcp, zcq, zcr, zcs, zct, zcu, zcv, zcw, zcx, zcy, zcz, zda, zdb, zdc, zdd, zde, zdf, zdg, zdh, zdi, zdj, zdk, zdl, zdm, zdn, zdo, zdp, zdq, zdr, zds, Option.getD_some, Option.getD_none, zfg, zfh, zfi, zfj, zfk, zfl, zfm, zfn, Option.map_some, Option.map_none, Option.bind_some, List.map_cons, List.map_nil, List.cons_append, List.nil_append, ↓reduceIte, Nat.reduceEqDiff, Nat.reduceAdd, decide_true, decide_false, Bool.true_eq_false, Bool.false_eq_true, env0, List.getElem?_cons_zero, List.getElem?_cons_succ, zdt, zdu, zdv, zdw, zdx, zdy, zdz, zea, ia22, ld31, zeb, zec, lenTk, den_loop]
  refine loop_ends (X := Nat) (fun i env s => env 0 = .sl (cellsK us) us.length (gr ag) ∧ env 1 = .sl (cellsK vs) vs.length (gr bg) ∧ env 2 = .fn 96 [] ∧ env 11 = .sl (cellsK us) us.length (gr ag) ∧ env 12 = .int .i64 (us.length : Int) ∧ env 13 = .int .i64 (i : Int) ∧ i ≤ us.length ∧ i ≤ vs.length ∧ cmpL (us.drop i) (vs.drop i) = cmpL us vs) (fun i => us.length - i) (fun _ => (.tree (.int .i64 (cmpL us vs)), [[], [], []])) ?_ 100000 0 _ _ (by omega) ⟨(by first | (simp only [zfn, ↓reduceIte, Nat.reduceEqDiff, env0, List.getElem?_cons_zero, List.getElem?_cons_succ]; done) | (simp only [zfn, ↓reduceIte, Nat.reduceEqDiff, env0, List.getElem?_cons_zero, List.getElem?_cons_succ]; rfl)), (by first | (simp only [zfn, ↓reduceIte, Nat.reduceEqDiff, env0, List.getElem?_cons_zero, List.getElem?_cons_succ]; done) | (simp only [zfn, ↓reduceIte, Nat.reduceEqDiff, env0, List.getElem?_cons_zero, List.getElem?_cons_succ]; rfl)), (by first | (simp only [zfn, ↓reduceIte, Nat.reduceEqDiff, env0, List.getElem?_cons_zero, List.getElem?_cons_succ]; done) | (simp only [zfn, ↓reduceIte, Nat.reduceEqDiff, env0, List.getElem?_cons_zero, List.getElem?_cons_succ]; rfl)), (by first | (simp only [zfn, ↓reduceIte, Nat.reduceEqDiff]; done) | (simp only [zfn, ↓reduceIte, Nat.reduceEqDiff]; rfl)), (by first | (simp only [zfn, ↓reduceIte, Nat.reduceEqDiff]; done) | (simp only [zfn, ↓reduceIte, Nat.reduceEqDiff]; rfl)), (by first | (simp only [zfn, ↓reduceIte, Nat.reduceEqDiff]; done) | (simp only [zfn, ↓reduceIte, Nat.reduceEqDiff]; rfl)), Nat.zero_le _, Nat.zero_le _, rfl⟩
  intro k i hx ih env st ⟨e0, e1, e2, e11, e12, e13, hi, hi2, hc⟩
  cases hda : us.drop i with
  | nil =>
    have hil : i = us.length := by have := congrArg List.length hda; simp only [List.length_drop, List.length_nil] at this; omega
    have q1 : ¬ ((i : Int) < (us.length : Int)) := by omega
    rw [hda] at hc
    cases hdb : vs.drop i with
    | nil =>
      have hjl : i = vs.length := by have := congrArg List.length hdb; simp only [List.length_drop, List.length_nil] at this; omega
      rw [hdb] at hc
      simp only [cmpL] at hc
      rw [← hc]
      have q2 : ¬ ((us.length : Int) < (vs.length : Int)) := by omega
      simp only [zaa, zab, zac, zad, zae, zaf, zag, zah, zai, zaj, zak, zal, zam, zan, zao, zap, zaq, zar, zas, zat, zau, zav, zaw, zax, zay, zaz, zba, zbb, zbc, zbd, zbe, zbf, zbg, zbh, zbi, zbj, zbk, zbl, zbm, zbn, zbo, zbp, zbq, Nat.reduceBEq, Bool.or_self, Bool.or_false, Bool.or_true, Bool.and_true, Bool.and_false, Bool.true_and, Bool.false_and, Option.isNone_none, Option.isNone_some, Option.isSome_some, Option.isSome_none, zbr, zbs, zbt, zbu, zbv, zbw, zbx, zby, zbz, zca, zcb, zcc, zcd, zce, zcf, zcg, zch, zci, zcj, zck, zcl, zcm, zcn, zco, zcp, zcq, zcr, zcs, zct, zcu, zcv, zcw, zcx, zcy, zcz, zda, zdb, zdc, zdd, zde, zdf, zdg, zdh, zdi, zdj, zdk, zdl, zdm, zdn, zdo, zdp, zdq, zdr, zds, Option.getD_some, Option.getD_none, zfg, zfh, zfi, zfj, zfk, zfl, zfm, zfn, Option.map_some, Option.map_none, Option.bind_some, List.map_cons, List.map_nil, List.cons_append, List.nil_append, ↓reduceIte, Nat.reduceEqDiff, Nat.reduceAdd, decide_true, decide_false, Bool.true_eq_false, Bool.false_eq_true, zdt, zdu, zdv, zdw, zdx, zdy, zdz, zea, ia22, ld31, zeb, zec, e0, e1, e2, e11, e12, e13, q1, q2, lenTk]
      exact finish_i _ _ _ _ _ _ _ (by first | (simp only [zfn, ↓reduceIte, Nat.reduceEqDiff]; done) | (simp only [zfn, ↓reduceIte, Nat.reduceEqDiff]; rfl)) rfl
    | cons y r =>
      have hjl : i < vs.length := by have := congrArg List.length hdb; simp only [List.length_drop, List.length_cons] at this; omega
      rw [hdb] at hc
      simp only [cmpL] at hc
      rw [← hc]
      have q2 : (us.length : Int) < (vs.length : Int) := by omega
      simp only [zaa, zab, zac, zad, zae, zaf, zag, zah, zai, zaj, zak, zal, zam, zan, zao, zap, zaq, zar, zas, zat, zau, zav, zaw, zax, zay, zaz, zba, zbb, zbc, zbd, zbe, zbf, zbg, zbh, zbi, zbj, zbk, zbl, zbm, zbn, zbo, zbp, zbq, Nat.reduceBEq, Bool.or_self, Bool.or_false, Bool.or_true, Bool.and_true, Bool.and_false, Bool.true_and, Bool.false_and, Option.isNone_none, Option.isNone_some, Option.isSome_some, Option.isSome_none, zbr, zbs, zbt, zbu, zbv, zbw, zbx, zby, zbz, zca, zcb, zcc, zcd, zce, zcf, zcg, zch, zci, zcj, zck, zcl, zcm, zcn, zco, zcp, zcq, zcr, zcs, zct, zcu, zcv, zcw, zcx, zcy, zcz, zda, zdb, zdc, zdd, zde, zdf, zdg, zdh, zdi, zdj, zdk, zdl, zdm, zdn, zdo, zdp, zdq, zdr, zds, Option.getD_some, Option.getD_none, zfg, zfh, zfi, zfj, zfk, zfl, zfm, zfn, Option.map_some, Option.map_none, Option.bind_some, List.map_cons, List.map_nil, List.cons_append, List.nil_append, ↓reduceIte, Nat.reduceEqDiff, Nat.reduceAdd, decide_true, decide_false, Bool.true_eq_false, Bool.false_eq_true, zdt, zdu, zdv, zdw, zdx, zdy, zdz, zea, ia22, ld31, zeb, zec, e0, e1, e2, e11, e12, e13, q1, q2, lenTk]
      exact finish_i _ _ _ _ _ _ _ (by first | (simp only [zfn, ↓reduceIte, Nat.reduceEqDiff]; done) | (simp only [zfn, ↓reduceIte, Nat.reduceEqDiff]; rfl)) rfl
  | cons x q =>
    have hil : i < us.length := by have := congrArg List.length hda; simp only [List.length_drop, List.length_cons] at this; omega
    have q1 : (i : Int) < (us.length : Int) := by omega
    have ia := fun st => ia_K st us (gr ag) i hil
    rw [hda] at ia hc
    have ld := fun st => ld_K st x q
    simp only [encT] at ld
    cases hdb : vs.drop i with
    | nil =>
      have hjl : i = vs.length := by have := congrArg List.length hdb; simp only [List.length_drop, List.length_nil] at this; omega
      rw [hdb] at hc
      simp only [cmpL] at hc
      rw [← hc]
      have q2 : (i : Int) ≥ (vs.length : Int) := by omega
      simp only [zaa, zab, zac, zad, zae, zaf, zag, zah, zai, zaj, zak, zal, zam, zan, zao, zap, zaq, zar, zas, zat, zau, zav, zaw, zax, zay, zaz, zba, zbb, zbc, zbd, zbe, zbf, zbg, zbh, zbi, zbj, zbk, zbl, zbm, zbn, zbo, zbp, zbq, Nat.reduceBEq, Bool.or_self, Bool.or_false, Bool.or_true, Bool.and_true, Bool.and_false, Bool.true_and, Bool.false_and, Option.isNone_none, Option.isNone_some, Option.isSome_some, Option.isSome_none, zbr, zbs, zbt, zbu, zbv, zbw, zbx, zby, zbz, zca, zcb, zcc, zcd, zce, zcf, zcg, zch, zci, zcj, zck, zcl, zcm, zcn, zco, zcp, zcq, zcr, zcs, zct, zcu, zcv, zcw, zcx, zcy, zcz, zda, zdb, zdc, zdd, zde, zdf, zdg, zdh, zdi, zdj, zdk, zdl, zdm, zdn, zdo, zdp, zdq, zdr, zds, Option.getD_some, Option.getD_none, zfg, zfh, zfi, zfj, zfk, zfl, zfm, zfn, Option.map_some, Option.map_none, Option.bind_some, List.map_cons, List.map_nil, List.cons_append, List.nil_append, ↓reduceIte, Nat.reduceEqDiff, Nat.reduceAdd, decide_true, decide_false, Bool.true_eq_false, Bool.false_eq_true, zdt, zdu, zdv, zdw, zdx, zdy, zdz, zea, ia22, ld31, zeb, zec, zed, zee, zef, zeg, zeh, zei, zej, zek, zel, zem, zen, zeo, zep, fa_0, fa_1, zeq, bd_0, bd_2, zer, fd_1, zes, Nat.zero_add, e0, e1, e2, e11, e12, e13, q1, q2, lenTk, ia, ld, zeroT, st_Tt, stT_6]
      exact finish_i _ _ _ _ _ _ _ (by first | (simp only [zfn, ↓reduceIte, Nat.reduceEqDiff]; done) | (simp only [zfn, ↓reduceIte, Nat.reduceEqDiff]; rfl)) rfl
    | cons y r =>
      have hjl : i < vs.length := by have := congrArg List.length hdb; simp only [List.length_drop, List.length_cons] at this; omega
      have q2 : ¬ ((i : Int) ≥ (vs.length : Int)) := by omega
      have ib := fun st => ia_K st vs (gr bg) i hjl
      rw [hdb] at ib hc
      have ldb := fun st => ld_K st y r
      simp only [encT] at ldb
      simp only [cmpL] at hc
      have cc := fun D st => callA_trees (cfg := cfg0) (d := D) (s := st) (f := 96) (vs := [encT x, encT y]) rfl (h i i x y q r hda hdb)
      simp only [encT] at cc
      have f5 := i_add Tryz.prog 3 (i : Int) 1 (by omega) (by omega)
      by_cases g : cmpT x y = 0
      · have g' : (cmpT x y != 0) = false := by rw [g]; rfl
        rw [or2_0 g] at hc
        simp only [zaa, zab, zac, zad, zae, zaf, zag, zah, zai, zaj, zak, zal, zam, zan, zao, zap, zaq, zar, zas, zat, zau, zav, zaw, zax, zay, zaz, zba, zbb, zbc, zbd, zbe, zbf, zbg, zbh, zbi, zbj, zbk, zbl, zbm, zbn, zbo, zbp, zbq, Nat.reduceBEq, Bool.or_self, Bool.or_false, Bool.or_true, Bool.and_true, Bool.and_false, Bool.true_and, Bool.false_and, Option.isNone_none, Option.isNone_some, Option.isSome_some, Option.isSome_none, zbr, zbs, zbt, zbu, zbv, zbw, zbx, zby, zbz, zca, zcb, zcc, zcd, zce, zcf, zcg, zch, zci, zcj, zck, zcl, zcm, zcn, zco, zcp, zcq, zcr, zcs, zct, zcu, zcv, zcw, zcx, zcy, zcz, zda, zdb, zdc, zdd, zde, zdf, zdg, zdh, zdi, zdj, zdk, zdl, zdm, zdn, zdo, zdp, zdq, zdr, zds, Option.getD_some, Option.getD_none, zfg, zfh, zfi, zfj, zfk, zfl, zfm, zfn, Option.map_some, Option.map_none, Option.bind_some, List.map_cons, List.map_nil, List.cons_append, List.nil_append, ↓reduceIte, Nat.reduceEqDiff, Nat.reduceAdd, decide_true, decide_false, Bool.true_eq_false, Bool.false_eq_true, zdt, zdu, zdv, zdw, zdx, zdy, zdz, zea, ia22, ld31, zeb, zec, zed, zee, zef, zeg, zeh, zei, zej, zek, zel, zem, zen, zeo, zep, fa_0, fa_1, zeq, bd_0, bd_2, zer, fd_1, zes, Nat.zero_add, zez, zfa, zfb, zfc, zfd, zfe, zff, e0, e1, e2, e11, e12, e13, q1, q2, lenTk, ia, ib, ld, ldb, zeroT, st_Tt, stT_6, ldT_u, cc, g', f5]
        exact ih (i + 1) _ _ (by omega) rfl ⟨(by first | (simp only [zfn, ↓reduceIte, Nat.reduceEqDiff, e0]; done) | (simp only [zfn, ↓reduceIte, Nat.reduceEqDiff, e0]; rfl)), (by first | (simp only [zfn, ↓reduceIte, Nat.reduceEqDiff, e1]; done) | (simp only [zfn, ↓reduceIte, Nat.reduceEqDiff, e1]; rfl)), (by first | (simp only [zfn, ↓reduceIte, Nat.reduceEqDiff, e2]; done) | (simp only [zfn, ↓reduceIte, Nat.reduceEqDiff, e2]; rfl)), (by first | (simp only [zfn, ↓reduceIte, Nat.reduceEqDiff, e11]; done) | (simp only [zfn, ↓reduceIte, Nat.reduceEqDiff, e11]; rfl)), (by first | (simp only [zfn, ↓reduceIte, Nat.reduceEqDiff, e12]; done) | (simp only [zfn, ↓reduceIte, Nat.reduceEqDiff, e12]; rfl)), (by first | (simp only [zfn, ↓reduceIte, Nat.reduceEqDiff]; done) | (simp only [zfn, ↓reduceIte, Nat.reduceEqDiff]; rfl)), by omega, by omega, by rw [drop_next hda, drop_next hdb]; exact hc⟩
      · have g' : (cmpT x y != 0) = true := by rw [bne_iff_ne]; exact g
        rw [or2_n g] at hc
        rw [← hc]
        simp only [zaa, zab, zac, zad, zae, zaf, zag, zah, zai, zaj, zak, zal, zam, zan, zao, zap, zaq, zar, zas, zat, zau, zav, zaw, zax, zay, zaz, zba, zbb, zbc, zbd, zbe, zbf, zbg, zbh, zbi, zbj, zbk, zbl, zbm, zbn, zbo, zbp, zbq, Nat.reduceBEq, Bool.or_self, Bool.or_false, Bool.or_true, Bool.and_true, Bool.and_false, Bool.true_and, Bool.false_and, Option.isNone_none, Option.isNone_some, Option.isSome_some, Option.isSome_none, zbr, zbs, zbt, zbu, zbv, zbw, zbx, zby, zbz, zca, zcb, zcc, zcd, zce, zcf, zcg, zch, zci, zcj, zck, zcl, zcm, zcn, zco, zcp, zcq, zcr, zcs, zct, zcu, zcv, zcw, zcx, zcy, zcz, zda, zdb, zdc, zdd, zde, zdf, zdg, zdh, zdi, zdj, zdk, zdl, zdm, zdn, zdo, zdp, zdq, zdr, zds, Option.getD_some, Option.getD_none, zfg, zfh, zfi, zfj, zfk, zfl, zfm, zfn, Option.map_some, Option.map_none, Option.bind_some, List.map_cons, List.map_nil, List.cons_append, List.nil_append, ↓reduceIte, Nat.reduceEqDiff, Nat.reduceAdd, decide_true, decide_false, Bool.true_eq_false, Bool.false_eq_true, zdt, zdu, zdv, zdw, zdx, zdy, zdz, zea, ia22, ld31, zeb, zec, zed, zee, zef, zeg, zeh, zei, zej, zek, zel, zem, zen, zeo, zep, fa_0, fa_1, zeq, bd_0, bd_2, zer, fd_1, zes, Nat.zero_add, zez, zfa, zfb, zfc, zfd, zfe, zff, e0, e1, e2, e11, e12, e13, q1, q2, lenTk, ia, ib, ld, ldb, zeroT, st_Tt, stT_6, ldT_u, cc, g', f5]
        exact finish_i _ _ _ _ _ _ _ (by first | (simp only [zfn, ↓reduceIte, Nat.reduceEqDiff]; done) | (simp only [zfn, ↓reduceIte, Nat.reduceEqDiff]; rfl)) rfl
theorem tuples_eq (d : Nat) (us vs : List T) (ag bg : Gk) (ha : us.length ≤ 1000)
    (h : ∀ i j x y q r, us.drop i = x :: q → vs.drop j = y :: r → evalFn Tryz.prog cfg0 100000 (d+1) 96 [.tree (encT x), .tree (encT y)] = some (.tree (.int .i64 (cmpT x y)), [[], []])) :
    evalFn Tryz.prog cfg0 100000 (d+3) 128 [.tree (.sl (cellsK us) us.length (gr ag)), .tree (.sl (cellsK vs) vs.length (gr bg))] = some (.tree (.int .i64 (or2 (three us.length vs.length) (cmpL us vs))), [[], []]) := by
  rw [evalFn_go _ Tryz.func128 (by unfold Tryz.f128; rfl) (by unfold Tryz.f128; decide) (Nat.le_of_ble_eq_true (by unfold Tryz.f128; rfl)) (by kernel_rfl)]
  have hf := cmpF_eq (d+1) us vs ag bg ha h
  have isk : ∀ g : Gk, ∀ ks : List T, isTree (.sl (cellsK ks) ks.length (gr g)) = true := by intro g ks; cases g <;> rfl
  have c1 := fun D st => callA_trees (cfg := cfg0) (d := D) (s := st) (f := 145) (vs := [.sl (cellsK us) us.length (gr ag), .sl (cellsK vs) vs.length (gr bg), .fn 96 []]) (by simp only [List.all_cons, isk, Bool.true_and]; rfl) hf
  have c2 := fun D st => callA_trees (cfg := cfg0) (d := D) (s := st) (f := 123) (vs := [.int .i64 (us.length : Int), .int .i64 (vs.length : Int)]) rfl (cmpCI_eq 100000 d us.length vs.length)
  have c3 := fun D st x y => callA_trees (cfg := cfg0) (d := D) (s := st) (f := 127) (vs := [.sl [.int .i64 x, .int .i64 y] 2 .tight]) rfl (orI_eq 100000 (d+1) (by decide) x y .tight)
  simp only [zaa, zab, zac, zad, zae, zaf, zag, zah, zai, zaj, zak, zal, zam, zan, zao, zap, zaq, zar, zas, zat, zau, zav, zaw, zax, zay, zaz, zba, zbb, zbc, zbd, zbe, zbf, zbg, zbh, zbi, zbj, zbk, zbl, zbm, zbn, zbo, zbp, zbq, Nat.reduceBEq, Bool.or_self, Bool.or_false, Bool.or_true, Bool.and_true, Bool.and_false, Bool.true_and, Bool.false_and, Option.isNone_none, Option.isNone_some, Option.isSome_some, Option.isSome_none, zbr, zbs, zbt, zbu, zbv, zbw, zbx, zby, zbz, zca, zcb, zcc, zcd, zce, zcf, zcg, zch, zci, zcj, zck, zcl, zcm, zcn, zco, zcp, zcq, zcr, zcs, zct, zcu, zcv, zcw, zcx, zcy, zcz, zda, zdb, zdc, zdd, zde, zdf, zdg, zdh, zdi, zdj, zdk, zdl, zdm, zdn, zdo, zdp, zdq, zdr, zds, Option.getD_some, Option.getD_none, zfg, zfh, zfi, zfj, zfk, zfl, zfm, zfn, Option.map_some, Option.map_none, Option.bind_some, List.map_cons, List.map_nil, List.cons_append, List.nil_append, ↓reduceIte, Nat.reduceEqDiff, Nat.reduceAdd, decide_true, decide_false, Bool.true_eq_false, Bool.false_eq_true, env0, List.getElem?_cons_zero, List.getElem?_cons_succ, zdt, zdu, zdv, zdw, zdx, zdy, zdz, zea, ia22, ld31, zeb, zec, lenTk, c1, c2, c3, opA_two33, two33_int]
  exact finish_i _ _ _ _ _ _ _ (by first | (simp only [zfn, ↓reduceIte, Nat.reduceEqDiff]; done) | (simp only [zfn, ↓reduceIte, Nat.reduceEqDiff]; rfl)) rfl
end Go.Ab

/- term.Cmp upon terms that may be, walked. Conditions: terms that may be; so many nodes at most. -/
namespace Go.Ab
open Go.Proofs
set_option maxRecDepth 100000
set_option linter.unusedSimpArgs false

theorem good_own {k : Int} {b : Bool} {lg : Gk} {l : List Nat} {s : List UInt8} {n : Int} {kg : Gk} {ks : List T} (h : goodT (.mk k b lg l s n kg ks)) : Limbs l ∧ ownT (.mk k b lg l s n kg ks) = true ∧ goodK ks := by
  simp only [goodT] at h
  exact h
theorem good_tup {b : Bool} {lg : Gk} {l : List Nat} {s : List UInt8} {n : Int} {kg : Gk} {ks : List T} (h : goodT (.mk 5 b lg l s n kg ks)) : ks.length ≤ 40 := by
  have := (good_own h).2.1
  simp only [ownT, Bool.and_eq_true, decide_eq_true_eq, Int.reduceEq, ↓reduceIte] at this
  exact this.2.1.2
theorem rank_inj {k k' : Int} (h : 1 ≤ k ∧ k ≤ 6) (h' : 1 ≤ k' ∧ k' ≤ 6) (e : three (rankI k) (rankI k') = 0) : k = k' := by
  have c : k = 1 ∨ k = 2 ∨ k = 3 ∨ k = 4 ∨ k = 5 ∨ k = 6 := by omega
  have c' : k' = 1 ∨ k' = 2 ∨ k' = 3 ∨ k' = 4 ∨ k' = 5 ∨ k' = 6 := by omega
  rcases c with rfl | rfl | rfl | rfl | rfl | rfl <;> rcases c' with rfl | rfl | rfl | rfl | rfl | rfl <;> first | rfl | (exact absurd e (by decide))
set_option maxHeartbeats 32000000 in
theorem tcmp_eq : ∀ (d D : Nat) (a0 b0 : T), htT a0 ≤ d → 3 * d + 6 ≤ D → nodT a0 < 100000 → goodT a0 → goodT b0 →
    evalFn Tryz.prog cfg0 100000 D 96 [.tree (encT a0), .tree (encT b0)] = some (.tree (.int .i64 (cmpT a0 b0)), [[], []])
  | 0, _, a0, b0, hd, _, hn, ha, hb => by obtain ⟨k, b, lg, l, s, m, kg, ks⟩ := a0; simp only [htT] at hd; omega
  | d + 1, D, a0, b0, hd, hD, hn, ha, hb => by
    obtain ⟨m, rfl⟩ : ∃ m, D = m + 9 := ⟨D - 9, by omega⟩
    have IH := fun D h a b h1 h2 h3 h4 => tcmp_eq d D a b h1 h h2 h3 h4
    rw [evalFn_go _ Tryz.func96 (by unfold Tryz.f96; rfl) (by unfold Tryz.f96; decide) (Nat.le_of_ble_eq_true (by unfold Tryz.f96; rfl)) (by kernel_rfl)]
    simp only [zaa, zab, zac, zad, zae, zaf, zag, zah, zai, zaj, zak, zal, zam, zan, zao, zap, zaq, zar, zas, zat, zau, zav, zaw, zax, zay, zaz, zba, zbb, zbc, zbd, zbe, zbf, zbg, zbh, zbi, zbj, zbk, zbl, zbm, zbn, zbo, zbp, zbq, Nat.reduceBEq, Bool.or_self, Bool.or_false, Bool.or_true, Bool.and_true, Bool.and_false, Bool.true_and, Bool.false_and, Option.isNone_none, Option.isNone_some, Option.isSome_some, Option.isSome_none, zbr, zbs, zbt, zbu, zbv, zbw, zbx, zby, zbz, zca, zcb, zcc, zcd, zce, zcf, zcg, zch, zci, zcj, zck, zcl, zcm, zcn, zco, zcp, zcq, zcr, zcs, zct, zcu, zcv, zcw, zcx, zcy, zcz, zda, zdb, zdc, zdd, zde, zdf, zdg, zdh, zdi, zdj, zdk, zdl, zdm, zdn, zdo, zdp, zdq, zdr, zds, Option.getD_some, Option.getD_none, zfg, zfh, zfi, zfj, zfk, zfl, zfm, zfn, Option.map_some, Option.map_none, Option.bind_some, List.map_cons, List.map_nil, List.cons_append, List.nil_append, ↓reduceIte, Nat.reduceEqDiff, Nat.reduceAdd, decide_true, decide_false, Bool.true_eq_false, Bool.false_eq_true, env0, List.getElem?_cons_zero, List.getElem?_cons_succ, zed, zee, zef, zeg, zeh, zei, zej, zek, zel, zem, zen, zeo, zep, fa_0, fa_1, zeq, bd_0, bd_2, zer, fd_1, zes, Nat.zero_add, encT, den_loop]
    refine loop_ends (X := T × T) (fun x env s => env 2 = .ptr 2 1 0 ∧ env 3 = .ptr 3 1 0 ∧ s 2 = ⟨1, .buf (cellsT x.1)⟩ ∧ s 3 = ⟨1, .buf (cellsT x.2)⟩ ∧ htT x.1 ≤ d + 1 ∧ nodT x.1 < 100000 ∧ goodT x.1 ∧ goodT x.2) (fun x => nodT x.1) (fun x => (.tree (.int .i64 (cmpT x.1 x.2)), [[], []])) ?_ 100000 (a0, b0) _ _ hn ⟨(by first | (simp only [zfn, ↓reduceIte, Nat.reduceEqDiff]; done) | (simp only [zfn, ↓reduceIte, Nat.reduceEqDiff]; rfl)), (by first | (simp only [zfn, ↓reduceIte, Nat.reduceEqDiff]; done) | (simp only [zfn, ↓reduceIte, Nat.reduceEqDiff]; rfl)), (by first | (simp only [zfn, ↓reduceIte, Nat.reduceEqDiff]; done) | (simp only [zfn, ↓reduceIte, Nat.reduceEqDiff]; rfl)), (by first | (simp only [zfn, ↓reduceIte, Nat.reduceEqDiff]; done) | (simp only [zfn, ↓reduceIte, Nat.reduceEqDiff]; rfl)), hd, hn, ha, hb⟩
    rintro rd ⟨a, b⟩ hrd ih env st ⟨e2, e3, j2, j3, hht, hnod, hga, hgb⟩
    simp only at j2 j3 hht hnod hga hgb
    obtain ⟨k, n1, lg, l, s, i1, kg, ks⟩ := a
    obtain ⟨k', n2, lg', l', s', i2, kg', ks'⟩ := b
    have hk := good_kind hga
    have hk' := good_kind hgb
    have ga := good_own hga
    have gb := good_own hgb
    simp only [cellsT] at j2 j3
    by_cases h4 : k = 4 ∧ k' = 4
    · obtain ⟨rfl, rfl⟩ := h4
      obtain ⟨x, y, rfl⟩ := own_kids ga.2.1 rfl
      obtain ⟨x', y', rfl⟩ := own_kids gb.2.1 rfl
      have gx : goodT x ∧ goodT y := by have := ga.2.2; simp only [goodK, and_true] at this; exact this
      have gx' : goodT x' ∧ goodT y' := by have := gb.2.2; simp only [goodK, and_true] at this; exact this
      have hh : max (htT x) (htT y) + 1 ≤ d + 1 := by simp only [htT, htK] at hht; omega
      have hnn : nodT (.mk 4 n1 lg l s i1 kg [x, y]) = nodT x + nodT y + 1 := by simp only [nodT, nodK]; omega
      have hc : cmpT (.mk 4 n1 lg l s i1 kg [x, y]) (.mk 4 n2 lg' l' s' i2 kg' [x', y']) = or2 (cmpT x x') (cmpT y y') := by
        simp only [cmpT, kindT, kidsT, and_self, ↓reduceIte, cmpC, cmpD, List.headD_cons, List.tail_cons]
      have hq : ((4 : Int) == 4) = true := rfl
      have k1 := callQ_trees (f := 122) (vs := [encT (.mk 4 n1 lg l s i1 kg [x, y]), .int .i64 0]) rfl (kid_eq 100000 (m+7) 4 n1 lg l s i1 kg [x, y] 0 x [y] rfl)
      have k2 := callQ_trees (f := 122) (vs := [encT (.mk 4 n1 lg l s i1 kg [x, y]), .int .i64 1]) rfl (kid_eq 100000 (m+7) 4 n1 lg l s i1 kg [x, y] 1 y [] rfl)
      have k3 := callQ_trees (f := 122) (vs := [encT (.mk 4 n2 lg' l' s' i2 kg' [x', y']), .int .i64 0]) rfl (kid_eq 100000 (m+7) 4 n2 lg' l' s' i2 kg' [x', y'] 0 x' [y'] rfl)
      have k4 := callQ_trees (f := 122) (vs := [encT (.mk 4 n2 lg' l' s' i2 kg' [x', y']), .int .i64 1]) rfl (kid_eq 100000 (m+7) 4 n2 lg' l' s' i2 kg' [x', y'] 1 y' [] rfl)
      have k5 := callQ_trees (f := 96) (vs := [encT x, encT x']) rfl (IH (m+8) (by omega) x x' (by omega) (by omega) gx.1 gx'.1)
      simp only [encT, cellsT, List.length_cons, List.length_nil, Nat.zero_add, Nat.reduceAdd] at k1 k2 k3 k4 k5 j2 j3
      by_cases g : cmpT x x' = 0
      · have g' : (cmpT x x' != 0) = false := by rw [g]; rfl
        rw [or2_0 g] at hc
        simp only [zaa, zab, zac, zad, zae, zaf, zag, zah, zai, zaj, zak, zal, zam, zan, zao, zap, zaq, zar, zas, zat, zau, zav, zaw, zax, zay, zaz, zba, zbb, zbc, zbd, zbe, zbf, zbg, zbh, zbi, zbj, zbk, zbl, zbm, zbn, zbo, zbp, zbq, Nat.reduceBEq, Bool.or_self, Bool.or_false, Bool.or_true, Bool.and_true, Bool.and_false, Bool.true_and, Bool.false_and, Option.isNone_none, Option.isNone_some, Option.isSome_some, Option.isSome_none, zbr, zbs, zbt, zbu, zbv, zbw, zbx, zby, zbz, zca, zcb, zcc, zcd, zce, zcf, zcg, zch, zci, zcj, zck, zcl, zcm, zcn, zco, zcp, zcq, zcr, zcs, zct, zcu, zcv, zcw, zcx, zcy, zcz, zda, zdb, zdc, zdd, zde, zdf, zdg, zdh, zdi, zdj, zdk, zdl, zdm, zdn, zdo, zdp, zdq, zdr, zds, Option.getD_some, Option.getD_none, zfg, zfh, zfi, zfj, zfk, zfl, zfm, zfn, Option.map_some, Option.map_none, Option.bind_some, List.map_cons, List.map_nil, List.cons_append, List.nil_append, ↓reduceIte, Nat.reduceEqDiff, Nat.reduceAdd, decide_true, decide_false, Bool.true_eq_false, Bool.false_eq_true, zdt, zdu, zdv, zdw, zdx, zdy, zdz, zea, ia22, ld31, zeb, zec, zed, zee, zef, zeg, zeh, zei, zej, zek, zel, zem, zen, zeo, zep, fa_0, fa_1, zeq, bd_0, bd_2, zer, fd_1, zes, Nat.zero_add, e2, e3, j2, j3, faT_0, ldT_0, ldT_a, i_eqlV, hq, k1, k2, k3, k4, k5, g', st_Tt, stT_6, stT_u]
        exact ih (y, y') _ _ (by simp only; omega) (by simp only [hc]) ⟨(by first | (simp only [zfn, ↓reduceIte, Nat.reduceEqDiff, e2]; done) | (simp only [zfn, ↓reduceIte, Nat.reduceEqDiff, e2]; rfl)), (by first | (simp only [zfn, ↓reduceIte, Nat.reduceEqDiff, e3]; done) | (simp only [zfn, ↓reduceIte, Nat.reduceEqDiff, e3]; rfl)), (by first | (simp only [zfn, ↓reduceIte, Nat.reduceEqDiff]; done) | (simp only [zfn, ↓reduceIte, Nat.reduceEqDiff]; rfl)), (by first | (simp only [zfn, ↓reduceIte, Nat.reduceEqDiff]; done) | (simp only [zfn, ↓reduceIte, Nat.reduceEqDiff]; rfl)), by simp only; omega, by simp only; omega, gx.2, gx'.2⟩
      · have g' : (cmpT x x' != 0) = true := by rw [bne_iff_ne]; exact g
        rw [or2_n g] at hc
        simp only [hc]
        simp only [zaa, zab, zac, zad, zae, zaf, zag, zah, zai, zaj, zak, zal, zam, zan, zao, zap, zaq, zar, zas, zat, zau, zav, zaw, zax, zay, zaz, zba, zbb, zbc, zbd, zbe, zbf, zbg, zbh, zbi, zbj, zbk, zbl, zbm, zbn, zbo, zbp, zbq, Nat.reduceBEq, Bool.or_self, Bool.or_false, Bool.or_true, Bool.and_true, Bool.and_false, Bool.true_and, Bool.false_and, Option.isNone_none, Option.isNone_some, Option.isSome_some, Option.isSome_none, zbr, zbs, zbt, zbu, zbv, zbw, zbx, zby, zbz, zca, zcb, zcc, zcd, zce, zcf, zcg, zch, zci, zcj, zck, zcl, zcm, zcn, zco, zcp, zcq, zcr, zcs, zct, zcu, zcv, zcw, zcx, zcy, zcz, zda, zdb, zdc, zdd, zde, zdf, zdg, zdh, zdi, zdj, zdk, zdl, zdm, zdn, zdo, zdp, zdq, zdr, zds, Option.getD_some, Option.getD_none, zfg, zfh, zfi, zfj, zfk, zfl, zfm, zfn, Option.map_some, Option.map_none, Option.bind_some, List.map_cons, List.map_nil, List.cons_append, List.nil_append, ↓reduceIte, Nat.reduceEqDiff, Nat.reduceAdd, decide_true, decide_false, Bool.true_eq_false, Bool.false_eq_true, zdt, zdu, zdv, zdw, zdx, zdy, zdz, zea, ia22, ld31, zeb, zec, zed, zee, zef, zeg, zeh, zei, zej, zek, zel, zem, zen, zeo, zep, fa_0, fa_1, zeq, bd_0, bd_2, zer, fd_1, zes, Nat.zero_add, e2, e3, j2, j3, faT_0, ldT_0, ldT_a, i_eqlV, hq, k1, k2, k3, k4, k5, g', st_Tt, stT_6, stT_u]
        exact finish_i _ _ _ _ _ _ _ (by first | (simp only [zfn, ↓reduceIte, Nat.reduceEqDiff]; done) | (simp only [zfn, ↓reduceIte, Nat.reduceEqDiff]; rfl)) rfl
    · have hc : cmpT (.mk k n1 lg l s i1 kg ks) (.mk k' n2 lg' l' s' i2 kg' ks') = or2 (three (rankI k) (rankI k')) (if k = 1 then cmpI (numZ n1 l) (numZ n2 l') else if k = 2 ∨ k = 6 then strC s s' else if k = 5 then or2 (three ks.length ks'.length) (cmpL ks ks') else 0) := by
        simp only [cmpT, kindT, kidsT, strT, numT, h4, ↓reduceIte]
      have r1 := callQ_trees (f := 124) (vs := [.int .i64 k]) rfl (rank_eq (m+6) k hk)
      have r2 := callQ_trees (f := 124) (vs := [.int .i64 k']) rfl (rank_eq (m+6) k' hk')
      have r3 := callQ_trees (f := 123) (vs := [.int .i64 (rankI k), .int .i64 (rankI k')]) rfl (cmpCI_eq 100000 (m+6) (rankI k) (rankI k'))
      by_cases g : three (rankI k) (rankI k') = 0
      · have hkk := rank_inj hk hk' g
        subst hkk
        have k4 : k ≠ 4 := fun e => h4 ⟨e, e⟩
        have g' : (three (rankI k) (rankI k) != 0) = false := by rw [g]; rfl
        rw [or2_0 g] at hc
        simp only [hc]
        have b4 : (k == 4) = false := beq_eq_false_iff_ne.mpr k4
        have cc : k = 1 ∨ k = 2 ∨ k = 3 ∨ k = 5 ∨ k = 6 := by omega
        have c1 := fun D st => callA_trees (cfg := cfg0) (d := D) (s := st) (f := 125) (vs := [encA n1 lg l, encA n2 lg' l']) rfl (ncmp_eq 100000 (m+4) (by decide) (isN_A n1 lg l ga.1) (isN_A n2 lg' l' gb.1))
        have c2 := fun D st => callA_trees (cfg := cfg0) (d := D) (s := st) (f := 126) (vs := [.str s, .str s']) rfl (cmpCS_eq 100000 (m+6) s s')
        simp only [encA] at c1
        rcases cc with rfl | rfl | rfl | rfl | rfl
        · simp only [zaa, zab, zac, zad, zae, zaf, zag, zah, zai, zaj, zak, zal, zam, zan, zao, zap, zaq, zar, zas, zat, zau, zav, zaw, zax, zay, zaz, zba, zbb, zbc, zbd, zbe, zbf, zbg, zbh, zbi, zbj, zbk, zbl, zbm, zbn, zbo, zbp, zbq, Nat.reduceBEq, Bool.or_self, Bool.or_false, Bool.or_true, Bool.and_true, Bool.and_false, Bool.true_and, Bool.false_and, Option.isNone_none, Option.isNone_some, Option.isSome_some, Option.isSome_none, zbr, zbs, zbt, zbu, zbv, zbw, zbx, zby, zbz, zca, zcb, zcc, zcd, zce, zcf, zcg, zch, zci, zcj, zck, zcl, zcm, zcn, zco, zcp, zcq, zcr, zcs, zct, zcu, zcv, zcw, zcx, zcy, zcz, zda, zdb, zdc, zdd, zde, zdf, zdg, zdh, zdi, zdj, zdk, zdl, zdm, zdn, zdo, zdp, zdq, zdr, zds, Option.getD_some, Option.getD_none, zfg, zfh, zfi, zfj, zfk, zfl, zfm, zfn, Option.map_some, Option.map_none, Option.bind_some, List.map_cons, List.map_nil, List.cons_append, List.nil_append, ↓reduceIte, Nat.reduceEqDiff, Nat.reduceAdd, decide_true, decide_false, Bool.true_eq_false, Bool.false_eq_true, zdt, zdu, zdv, zdw, zdx, zdy, zdz, zea, ia22, ld31, zeb, zec, zed, zee, zef, zeg, zeh, zei, zej, zek, zel, zem, zen, zeo, zep, fa_0, fa_1, zeq, bd_0, bd_2, zer, fd_1, zes, Nat.zero_add, e2, e3, j2, j3, faT_0, faT_1, faT_2, faT_4, ldT_0, ldT_1, ldT_2, ldT_4, i_eqlV, b4, Int.reduceBEq, Int.reduceEq, r1, r2, r3, g', c1]
          exact finish_i _ _ _ _ _ _ _ (by first | (simp only [zfn, ↓reduceIte, Nat.reduceEqDiff]; done) | (simp only [zfn, ↓reduceIte, Nat.reduceEqDiff]; rfl)) rfl
        · simp only [zaa, zab, zac, zad, zae, zaf, zag, zah, zai, zaj, zak, zal, zam, zan, zao, zap, zaq, zar, zas, zat, zau, zav, zaw, zax, zay, zaz, zba, zbb, zbc, zbd, zbe, zbf, zbg, zbh, zbi, zbj, zbk, zbl, zbm, zbn, zbo, zbp, zbq, Nat.reduceBEq, Bool.or_self, Bool.or_false, Bool.or_true, Bool.and_true, Bool.and_false, Bool.true_and, Bool.false_and, Option.isNone_none, Option.isNone_some, Option.isSome_some, Option.isSome_none, zbr, zbs, zbt, zbu, zbv, zbw, zbx, zby, zbz, zca, zcb, zcc, zcd, zce, zcf, zcg, zch, zci, zcj, zck, zcl, zcm, zcn, zco, zcp, zcq, zcr, zcs, zct, zcu, zcv, zcw, zcx, zcy, zcz, zda, zdb, zdc, zdd, zde, zdf, zdg, zdh, zdi, zdj, zdk, zdl, zdm, zdn, zdo, zdp, zdq, zdr, zds, Option.getD_some, Option.getD_none, zfg, zfh, zfi, zfj, zfk, zfl, zfm, zfn, Option.map_some, Option.map_none, Option.bind_some, List.map_cons, List.map_nil, List.cons_append, List.nil_append, ↓reduceIte, Nat.reduceEqDiff, Nat.reduceAdd, decide_true, decide_false, Bool.true_eq_false, Bool.false_eq_true, zdt, zdu, zdv, zdw, zdx, zdy, zdz, zea, ia22, ld31, zeb, zec, zed, zee, zef, zeg, zeh, zei, zej, zek, zel, zem, zen, zeo, zep, fa_0, fa_1, zeq, bd_0, bd_2, zer, fd_1, zes, Nat.zero_add, e2, e3, j2, j3, faT_0, faT_1, faT_2, faT_4, ldT_0, ldT_1, ldT_2, ldT_4, i_eqlV, b4, Int.reduceBEq, Int.reduceEq, true_or, r1, r2, r3, g', c2]
          exact finish_i _ _ _ _ _ _ _ (by first | (simp only [zfn, ↓reduceIte, Nat.reduceEqDiff]; done) | (simp only [zfn, ↓reduceIte, Nat.reduceEqDiff]; rfl)) rfl
        · simp only [zaa, zab, zac, zad, zae, zaf, zag, zah, zai, zaj, zak, zal, zam, zan, zao, zap, zaq, zar, zas, zat, zau, zav, zaw, zax, zay, zaz, zba, zbb, zbc, zbd, zbe, zbf, zbg, zbh, zbi, zbj, zbk, zbl, zbm, zbn, zbo, zbp, zbq, Nat.reduceBEq, Bool.or_self, Bool.or_false, Bool.or_true, Bool.and_true, Bool.and_false, Bool.true_and, Bool.false_and, Option.isNone_none, Option.isNone_some, Option.isSome_some, Option.isSome_none, zbr, zbs, zbt, zbu, zbv, zbw, zbx, zby, zbz, zca, zcb, zcc, zcd, zce, zcf, zcg, zch, zci, zcj, zck, zcl, zcm, zcn, zco, zcp, zcq, zcr, zcs, zct, zcu, zcv, zcw, zcx, zcy, zcz, zda, zdb, zdc, zdd, zde, zdf, zdg, zdh, zdi, zdj, zdk, zdl, zdm, zdn, zdo, zdp, zdq, zdr, zds, Option.getD_some, Option.getD_none, zfg, zfh, zfi, zfj, zfk, zfl, zfm, zfn, Option.map_some, Option.map_none, Option.bind_some, List.map_cons, List.map_nil, List.cons_append, List.nil_append, ↓reduceIte, Nat.reduceEqDiff, Nat.reduceAdd, decide_true, decide_false, Bool.true_eq_false, Bool.false_eq_true, zdt, zdu, zdv, zdw, zdx, zdy, zdz, zea, ia22, ld31, zeb, zec, zed, zee, zef, zeg, zeh, zei, zej, zek, zel, zem, zen, zeo, zep, fa_0, fa_1, zeq, bd_0, bd_2, zer, fd_1, zes, Nat.zero_add, e2, e3, j2, j3, faT_0, faT_1, faT_2, faT_4, ldT_0, ldT_1, ldT_2, ldT_4, i_eqlV, b4, Int.reduceBEq, Int.reduceEq, false_or, r1, r2, r3, g', c2]
          exact finish_i _ _ _ _ _ _ _ (by first | (simp only [zfn, ↓reduceIte, Nat.reduceEqDiff]; done) | (simp only [zfn, ↓reduceIte, Nat.reduceEqDiff]; rfl)) rfl
        · have hl1 := good_tup hga
          have hl2 := good_tup hgb
          have hhk : htK ks ≤ d := by simp only [htT] at hht; omega
          have hnk : nodK ks < 100000 := by simp only [nodT] at hnod; omega
          have ht := tuples_eq (m+5) ks ks' kg kg' (by omega) (fun i j x y q r h1 h2 => IH (m+6) (by omega) x y (by have := kids_ht ks i x q h1; omega) (by have := kids_nod ks i x q h1; omega) (goodK_at ks i x q h1 ga.2.2) (goodK_at ks' j y r h2 gb.2.2))
          have isk : ∀ g : Gk, ∀ ks : List T, isTree (.sl (cellsK ks) ks.length (gr g)) = true := by intro g ks; cases g <;> rfl
          have c3 := fun D st => callA_trees (cfg := cfg0) (d := D) (s := st) (f := 128) (vs := [.sl (cellsK ks) ks.length (gr kg), .sl (cellsK ks') ks'.length (gr kg')]) (by simp only [List.all_cons, isk, Bool.true_and]; rfl) ht
          simp only [zaa, zab, zac, zad, zae, zaf, zag, zah, zai, zaj, zak, zal, zam, zan, zao, zap, zaq, zar, zas, zat, zau, zav, zaw, zax, zay, zaz, zba, zbb, zbc, zbd, zbe, zbf, zbg, zbh, zbi, zbj, zbk, zbl, zbm, zbn, zbo, zbp, zbq, Nat.reduceBEq, Bool.or_self, Bool.or_false, Bool.or_true, Bool.and_true, Bool.and_false, Bool.true_and, Bool.false_and, Option.isNone_none, Option.isNone_some, Option.isSome_some, Option.isSome_none, zbr, zbs, zbt, zbu, zbv, zbw, zbx, zby, zbz, zca, zcb, zcc, zcd, zce, zcf, zcg, zch, zci, zcj, zck, zcl, zcm, zcn, zco, zcp, zcq, zcr, zcs, zct, zcu, zcv, zcw, zcx, zcy, zcz, zda, zdb, zdc, zdd, zde, zdf, zdg, zdh, zdi, zdj, zdk, zdl, zdm, zdn, zdo, zdp, zdq, zdr, zds, Option.getD_some, Option.getD_none, zfg, zfh, zfi, zfj, zfk, zfl, zfm, zfn, Option.map_some, Option.map_none, Option.bind_some, List.map_cons, List.map_nil, List.cons_append, List.nil_append, ↓reduceIte, Nat.reduceEqDiff, Nat.reduceAdd, decide_true, decide_false, Bool.true_eq_false, Bool.false_eq_true, zdt, zdu, zdv, zdw, zdx, zdy, zdz, zea, ia22, ld31, zeb, zec, zed, zee, zef, zeg, zeh, zei, zej, zek, zel, zem, zen, zeo, zep, fa_0, fa_1, zeq, bd_0, bd_2, zer, fd_1, zes, Nat.zero_add, e2, e3, j2, j3, faT_0, faT_1, faT_2, faT_4, ldT_0, ldT_1, ldT_2, ldT_4, i_eqlV, b4, Int.reduceBEq, Int.reduceEq, false_or, r1, r2, r3, g', c3]
          exact finish_i _ _ _ _ _ _ _ (by first | (simp only [zfn, ↓reduceIte, Nat.reduceEqDiff]; done) | (simp only [zfn, ↓reduceIte, Nat.reduceEqDiff]; rfl)) rfl
        · simp only [zaa, zab, zac, zad, zae, zaf, zag, zah, zai, zaj, zak, zal, zam, zan, zao, zap, zaq, zar, zas, zat, zau, zav, zaw, zax, zay, zaz, zba, zbb, zbc, zbd, zbe, zbf, zbg, zbh, zbi, zbj, zbk, zbl, zbm, zbn, zbo, zbp, zbq, Nat.reduceBEq, Bool.or_self, Bool.or_false, Bool.or_true, Bool.and_true, Bool.and_false, Bool.true_and, Bool.false_and, Option.isNone_none, Option.isNone_some, Option.isSome_some, Option.isSome_none, zbr, zbs, zbt, zbu, zbv, zbw, zbx, zby, zbz, zca, zcb, zcc, zcd, zce, zcf, zcg, zch, zci, zcj, zck, zcl, zcm, zcn, zco, zcp, zcq, zcr, zcs, zct, zcu, zcv, zcw, zcx, zcy, zcz, zda, zdb, zdc, zdd, zde, zdf, zdg, zdh, zdi, zdj, zdk, zdl, zdm, zdn, zdo, zdp, zdq, zdr, zds, Option.getD_some, Option.getD_none, zfg, zfh, zfi, zfj, zfk, zfl, zfm, zfn, Option.map_some, Option.map_none, Option.bind_some, List.map_cons, List.map_nil, List.cons_append, List.nil_append, ↓reduceIte, Nat.reduceEqDiff, Nat.reduceAdd, decide_true, decide_false, Bool.true_eq_false, Bool.false_eq_true, zdt, zdu, zdv, zdw, zdx, zdy, zdz, zea, ia22, ld31, zeb, zec, zed, zee, zef, zeg, zeh, zei, zej, zek, zel, zem, zen, zeo, zep, fa_0, fa_1, zeq, bd_0, bd_2, zer, fd_1, zes, Nat.zero_add, e2, e3, j2, j3, faT_0, faT_1, faT_2, faT_4, ldT_0, ldT_1, ldT_2, ldT_4, i_eqlV, b4, Int.reduceBEq, Int.reduceEq, or_true, r1, r2, r3, g', c2]
          exact finish_i _ _ _ _ _ _ _ (by first | (simp only [zfn, ↓reduceIte, Nat.reduceEqDiff]; done) | (simp only [zfn, ↓reduceIte, Nat.reduceEqDiff]; rfl)) rfl
      · have g' : (three (rankI k) (rankI k') != 0) = true := by rw [bne_iff_ne]; exact g
        rw [or2_n g] at hc
        simp only [hc]
        by_cases k4 : k = 4
        · have b4 : (k == 4) = true := by rw [k4]; rfl
          have b5 : (k' == 4) = false := beq_eq_false_iff_ne.mpr fun e => h4 ⟨k4, e⟩
          simp only [zaa, zab, zac, zad, zae, zaf, zag, zah, zai, zaj, zak, zal, zam, zan, zao, zap, zaq, zar, zas, zat, zau, zav, zaw, zax, zay, zaz, zba, zbb, zbc, zbd, zbe, zbf, zbg, zbh, zbi, zbj, zbk, zbl, zbm, zbn, zbo, zbp, zbq, Nat.reduceBEq, Bool.or_self, Bool.or_false, Bool.or_true, Bool.and_true, Bool.and_false, Bool.true_and, Bool.false_and, Option.isNone_none, Option.isNone_some, Option.isSome_some, Option.isSome_none, zbr, zbs, zbt, zbu, zbv, zbw, zbx, zby, zbz, zca, zcb, zcc, zcd, zce, zcf, zcg, zch, zci, zcj, zck, zcl, zcm, zcn, zco, zcp, zcq, zcr, zcs, zct, zcu, zcv, zcw, zcx, zcy, zcz, zda, zdb, zdc, zdd, zde, zdf, zdg, zdh, zdi, zdj, zdk, zdl, zdm, zdn, zdo, zdp, zdq, zdr, zds, Option.getD_some, Option.getD_none, zfg, zfh, zfi, zfj, zfk, zfl, zfm, zfn, Option.map_some, Option.map_none, Option.bind_some, List.map_cons, List.map_nil, List.cons_append, List.nil_append, ↓reduceIte, Nat.reduceEqDiff, Nat.reduceAdd, decide_true, decide_false, Bool.true_eq_false, Bool.false_eq_true, zdt, zdu, zdv, zdw, zdx, zdy, zdz, zea, ia22, ld31, zeb, zec, zed, zee, zef, zeg, zeh, zei, zej, zek, zel, zem, zen, zeo, zep, fa_0, fa_1, zeq, bd_0, bd_2, zer, fd_1, zes, Nat.zero_add, e2, e3, j2, j3, faT_0, ldT_0, i_eqlV, b4, b5, r1, r2, r3, g']
          exact finish_i _ _ _ _ _ _ _ (by first | (simp only [zfn, ↓reduceIte, Nat.reduceEqDiff]; done) | (simp only [zfn, ↓reduceIte, Nat.reduceEqDiff]; rfl)) rfl
        · have b4 : (k == 4) = false := beq_eq_false_iff_ne.mpr k4
          simp only [zaa, zab, zac, zad, zae, zaf, zag, zah, zai, zaj, zak, zal, zam, zan, zao, zap, zaq, zar, zas, zat, zau, zav, zaw, zax, zay, zaz, zba, zbb, zbc, zbd, zbe, zbf, zbg, zbh, zbi, zbj, zbk, zbl, zbm, zbn, zbo, zbp, zbq, Nat.reduceBEq, Bool.or_self, Bool.or_false, Bool.or_true, Bool.and_true, Bool.and_false, Bool.true_and, Bool.false_and, Option.isNone_none, Option.isNone_some, Option.isSome_some, Option.isSome_none, zbr, zbs, zbt, zbu, zbv, zbw, zbx, zby, zbz, zca, zcb, zcc, zcd, zce, zcf, zcg, zch, zci, zcj, zck, zcl, zcm, zcn, zco, zcp, zcq, zcr, zcs, zct, zcu, zcv, zcw, zcx, zcy, zcz, zda, zdb, zdc, zdd, zde, zdf, zdg, zdh, zdi, zdj, zdk, zdl, zdm, zdn, zdo, zdp, zdq, zdr, zds, Option.getD_some, Option.getD_none, zfg, zfh, zfi, zfj, zfk, zfl, zfm, zfn, Option.map_some, Option.map_none, Option.bind_some, List.map_cons, List.map_nil, List.cons_append, List.nil_append, ↓reduceIte, Nat.reduceEqDiff, Nat.reduceAdd, decide_true, decide_false, Bool.true_eq_false, Bool.false_eq_true, zdt, zdu, zdv, zdw, zdx, zdy, zdz, zea, ia22, ld31, zeb, zec, zed, zee, zef, zeg, zeh, zei, zej, zek, zel, zem, zen, zeo, zep, fa_0, fa_1, zeq, bd_0, bd_2, zer, fd_1, zes, Nat.zero_add, e2, e3, j2, j3, faT_0, ldT_0, i_eqlV, b4, r1, r2, r3, g']
          exact finish_i _ _ _ _ _ _ _ (by first | (simp only [zfn, ↓reduceIte, Nat.reduceEqDiff]; done) | (simp only [zfn, ↓reduceIte, Nat.reduceEqDiff]; rfl)) rfl
end Go.Ab
