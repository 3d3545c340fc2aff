/- Several texts put together: AbnA21, AbnA22, AbnA23, AbnA24, AbnA25, AbnA26. Conditions: as each part says. -/
import Derived.Test.YtdibanolokkniaaDoorAbnA18
import Derived.Test.YtdibanolokkniaaDoorAbnAB
import Derived.Test.YtdibanolokkniaaDoorAbnRR
import Derived.Test.YtdibanolokkniaaDoorAbMM
import Derived.Test.YtdibanolokkniaaDoorAbnAC
import Derived.Test.YtdibanolokkniaaDoorAbnA10
/- The reference's Int, Neg, Bits; copies of numbers. Conditions: limbs in range. -/
namespace Go.Ab
open Go.Proofs
set_option maxRecDepth 100000
set_option linter.unusedSimpArgs false

set_option maxHeartbeats 2000000 in
theorem rneg_eq (n d : Nat) (hn : 100000 ≤ n) {w : AV} {z : Int} (hw : IsN w z) : evalFn Tryd.prog cfg0 n (d+3) 28 [.tree w] = some (.tree (canA .l (-z)), [[]]) := by
  obtain ⟨g, c1⟩ := cRis n d hw
  have hlt := hw.lt
  obtain ⟨neg, g0, l, rfl, hl, hz⟩ := hw
  rw [evalFn_go _ Tryd.func28 (by unfold Tryd.f28; rfl) (by unfold Tryd.f28; decide) (Nat.le_of_ble_eq_true (by unfold Tryd.f28; rfl)) (by kernel_rfl)]
  have c2 := fun D s => cRmade n d hn D s (num_can g z hlt) (!decide (z < 0))
  rw [sgn_flip, madeF_fit (by omega)] at c2
  simp only [zaa, zab, zac, zad, zae, zaf, zag, zah, zai, zaj, zak, zal, zam, zan, zao, zap, zaq, zar, zas, zat, zau, zav, zaw, zax, zay, zaz, zba, zbb, zbc, zbd, zbe, zbf, zbg, zbh, zbi, zbj, Nat.reduceBEq, Bool.or_self, Bool.or_false, Bool.or_true, Bool.and_true, Bool.and_false, Bool.true_and, Bool.false_and, Option.isNone_none, Option.isNone_some, Option.isSome_some, Option.isSome_none, zbk, zbl, zbm, zbn, zbo, zbp, zbq, zbr, zbs, zbt, zbu, zbv, zbw, zbx, zby, zbz, zca, zcb, zcc, zcd, zce, zcf, zcg, zch, zci, zcj, zck, zcl, zcm, zcn, zco, zcp, zcq, zcr, zcs, zct, zcu, zcv, zcw, zcx, zcy, zcz, zda, zdb, zdc, zdd, zde, zdf, Option.getD_some, Option.getD_none, zet, zeu, zev, zew, zex, zey, zez, zfa, Option.map_some, Option.map_none, Option.bind_some, List.map_cons, List.map_nil, List.cons_append, List.nil_append, ↓reduceIte, Nat.reduceEqDiff, Nat.reduceAdd, decide_true, decide_false, Bool.true_eq_false, Bool.false_eq_true, env0, List.getElem?_cons_zero, List.getElem?_cons_succ, zdg, zdh, zdi, zdj, zdk, zdl, zdm, zdn, ia22, ld31, zdo, zdp, zdq, zdr, zds, zdt, zdu, zdv, zdw, zdx, zdy, zdz, zea, zeb, zec, fa_0, fa_1, zed, bd_0, bd_2, zee, fd_1, zef, Nat.zero_add, st0_1, c1, unA_not', c2, ext_0, ext_1, zeb]
  exact finish_c _ _ 2 2 1 _ _ _ _ _ (by simp only [zfa, ↓reduceIte, Nat.reduceEqDiff]) (by simp only [zfa, ↓reduceIte, Nat.reduceEqDiff]) rfl
theorem cRneg (n d : Nat) (hn : 100000 ≤ n) {w : AV} {z : Int} (hw : IsN w z) (D : Nat) (s : St) : callA cfg0 (evalFn Tryd.prog cfg0 n (d+3)) D s 28 [w] = some (canA .l (-z), s) :=
  callA_trees (by simp [hw.tree]) (rneg_eq n d hn hw)
theorem qRneg (n d : Nat) (hn : 100000 ≤ n) {w : AV} {z : Int} (hw : IsN w z) : callQ (evalFn Tryd.prog cfg0 n (d+3)) 28 [w] = some (canA .l (-z)) :=
  callQ_trees (by simp [hw.tree]) (rneg_eq n d hn hw)
set_option maxHeartbeats 2000000 in
theorem rbits_eq (n d : Nat) (hn : 100000 ≤ n) {w : AV} {z : Int} (hw : IsN w z) : evalFn Tryd.prog cfg0 n (d+3) 30 [.tree w] = some (.tree (.int .i64 (blen z.natAbs : Int)), [[]]) := by
  obtain ⟨g, c1⟩ := cRis n d hw
  have hlt := hw.lt
  obtain ⟨neg, g0, l, rfl, hl, hz⟩ := hw
  rw [evalFn_go _ Tryd.func30 (by unfold Tryd.f30; rfl) (by unfold Tryd.f30; decide) (Nat.le_of_ble_eq_true (by unfold Tryd.f30; rfl)) (by kernel_rfl)]
  have c2 := fun D s => rcLen n d hn D s (num_can g z hlt)
  simp only [zaa, zab, zac, zad, zae, zaf, zag, zah, zai, zaj, zak, zal, zam, zan, zao, zap, zaq, zar, zas, zat, zau, zav, zaw, zax, zay, zaz, zba, zbb, zbc, zbd, zbe, zbf, zbg, zbh, zbi, zbj, Nat.reduceBEq, Bool.or_self, Bool.or_false, Bool.or_true, Bool.and_true, Bool.and_false, Bool.true_and, Bool.false_and, Option.isNone_none, Option.isNone_some, Option.isSome_some, Option.isSome_none, zbk, zbl, zbm, zbn, zbo, zbp, zbq, zbr, zbs, zbt, zbu, zbv, zbw, zbx, zby, zbz, zca, zcb, zcc, zcd, zce, zcf, zcg, zch, zci, zcj, zck, zcl, zcm, zcn, zco, zcp, zcq, zcr, zcs, zct, zcu, zcv, zcw, zcx, zcy, zcz, zda, zdb, zdc, zdd, zde, zdf, Option.getD_some, Option.getD_none, zet, zeu, zev, zew, zex, zey, zez, zfa, Option.map_some, Option.map_none, Option.bind_some, List.map_cons, List.map_nil, List.cons_append, List.nil_append, ↓reduceIte, Nat.reduceEqDiff, Nat.reduceAdd, decide_true, decide_false, Bool.true_eq_false, Bool.false_eq_true, env0, List.getElem?_cons_zero, List.getElem?_cons_succ, zdg, zdh, zdi, zdj, zdk, zdl, zdm, zdn, ia22, ld31, zdo, zdp, zdq, zdr, zds, zdt, zdu, zdv, zdw, zdx, zdy, zdz, zea, zeb, zec, fa_0, fa_1, zed, bd_0, bd_2, zee, fd_1, zef, Nat.zero_add, st0_1, c1, c2]
  exact finish_i _ _ _ _ _ _ _ (by simp only [zfa, ↓reduceIte]) rfl
theorem cRbits (n d : Nat) (hn : 100000 ≤ n) {w : AV} {z : Int} (hw : IsN w z) (D : Nat) (s : St) : callA cfg0 (evalFn Tryd.prog cfg0 n (d+3)) D s 30 [w] = some (.int .i64 (blen z.natAbs : Int), s) :=
  callA_trees (by simp [hw.tree]) (rbits_eq n d hn hw)
theorem bd_2T (b : Bool) (l : List Nat) (p t : Nat) : buildA Tryd.prog 24 [(0, .bool b), (1, .sl (encC l) l.length (.tok p t))] = some (encA b .l l) := by
  simp only [buildA, zef, tk24, pl24, Option.bind_some]
  rfl
set_option maxHeartbeats 2000000 in
theorem copyN_eq (n d : Nat) (b : Bool) (g : Gk) (l : List Nat) (hl : l.length ≤ 1000000) : evalFn Tryd.prog cfg0 n (d+2) 24 [.tree (encA b g l)] = some (.tree (encA b .l l), [[]]) := by
  rw [evalFn_go _ Tryd.func24 (by unfold Tryd.f24; rfl) (by unfold Tryd.f24; decide) (Nat.le_of_ble_eq_true (by unfold Tryd.f24; rfl)) (by kernel_rfl)]
  have c1 := fun D s => cLimbsT n d (sh_L g l) hl D s
  have kp : cfg0.keep 48 = true := by kernel_rfl
  have it : [encL g l].all isTree = true := by cases g <;> rfl
  simp only [zaa, zab, zac, zad, zae, zaf, zag, zah, zai, zaj, zak, zal, zam, zan, zao, zap, zaq, zar, zas, zat, zau, zav, zaw, zax, zay, zaz, zba, zbb, zbc, zbd, zbe, zbf, zbg, zbh, zbi, zbj, Nat.reduceBEq, Bool.or_self, Bool.or_false, Bool.or_true, Bool.and_true, Bool.and_false, Bool.true_and, Bool.false_and, Option.isNone_none, Option.isNone_some, Option.isSome_some, Option.isSome_none, zbk, zbl, zbm, zbn, zbo, zbp, zbq, zbr, zbs, zbt, zbu, zbv, zbw, zbx, zby, zbz, zca, zcb, zcc, zcd, zce, zcf, zcg, zch, zci, zcj, zck, zcl, zcm, zcn, zco, zcp, zcq, zcr, zcs, zct, zcu, zcv, zcw, zcx, zcy, zcz, zda, zdb, zdc, zdd, zde, zdf, Option.getD_some, Option.getD_none, zet, zeu, zev, zew, zex, zey, zez, zfa, Option.map_some, Option.map_none, Option.bind_some, List.map_cons, List.map_nil, List.cons_append, List.nil_append, ↓reduceIte, Nat.reduceEqDiff, Nat.reduceAdd, decide_true, decide_false, Bool.true_eq_false, Bool.false_eq_true, env0, List.getElem?_cons_zero, List.getElem?_cons_succ, zdg, zdh, zdi, zdj, zdk, zdl, zdm, zdn, ia22, ld31, zdo, zdp, zdq, zdr, zds, zdt, zdu, zdv, zdw, zdx, zdy, zdz, zea, zeb, zec, fa_0, fa_1, zed, bd_0, bd_2, zee, fd_1, zef, Nat.zero_add, st0_1, kp, it, c1, bd_2T]
  exact finish_c _ _ 2 2 1 _ _ _ _ _ (by simp only [zfa, ↓reduceIte, Nat.reduceEqDiff]) (by simp only [zfa, ↓reduceIte, Nat.reduceEqDiff]) rfl
set_option maxHeartbeats 2000000 in
theorem fewN_eq (n d : Nat) (b1 b2 : Bool) (g1 g2 : Gk) (l m : List Nat) : evalFn Tryd.prog cfg0 n (d+1) 23 [.tree (encA b1 g1 l), .tree (encA b2 g2 m)] = some (.tree (.bool (decide ((l.length : Int) ≤ 30) && decide ((m.length : Int) ≤ 30))), [[], []]) := by
  rw [evalFn_go _ Tryd.func23 (by unfold Tryd.f23; rfl) (by unfold Tryd.f23; decide) (Nat.le_of_ble_eq_true (by unfold Tryd.f23; rfl)) (by kernel_rfl)]
  by_cases h : (l.length : Int) ≤ 30
  · simp only [zaa, zab, zac, zad, zae, zaf, zag, zah, zai, zaj, zak, zal, zam, zan, zao, zap, zaq, zar, zas, zat, zau, zav, zaw, zax, zay, zaz, zba, zbb, zbc, zbd, zbe, zbf, zbg, zbh, zbi, zbj, Nat.reduceBEq, Bool.or_self, Bool.or_false, Bool.or_true, Bool.and_true, Bool.and_false, Bool.true_and, Bool.false_and, Option.isNone_none, Option.isNone_some, Option.isSome_some, Option.isSome_none, zbk, zbl, zbm, zbn, zbo, zbp, zbq, zbr, zbs, zbt, zbu, zbv, zbw, zbx, zby, zbz, zca, zcb, zcc, zcd, zce, zcf, zcg, zch, zci, zcj, zck, zcl, zcm, zcn, zco, zcp, zcq, zcr, zcs, zct, zcu, zcv, zcw, zcx, zcy, zcz, zda, zdb, zdc, zdd, zde, zdf, Option.getD_some, Option.getD_none, zet, zeu, zev, zew, zex, zey, zez, zfa, Option.map_some, Option.map_none, Option.bind_some, List.map_cons, List.map_nil, List.cons_append, List.nil_append, ↓reduceIte, Nat.reduceEqDiff, Nat.reduceAdd, decide_true, decide_false, Bool.true_eq_false, Bool.false_eq_true, env0, List.getElem?_cons_zero, List.getElem?_cons_succ, zdg, zdh, zdi, zdj, zdk, zdl, zdm, zdn, ia22, ld31, zdo, zdp, zdq, zdr, zds, zdt, zdu, zdv, zdw, zdx, zdy, zdz, zea, zeb, zec, fa_0, fa_1, zed, bd_0, bd_2, zee, fd_1, zef, Nat.zero_add, st0_2, h]
    exact finish_b _ _ _ _ _ _ _ (by simp only [zfa, ↓reduceIte]) rfl
  · simp only [zaa, zab, zac, zad, zae, zaf, zag, zah, zai, zaj, zak, zal, zam, zan, zao, zap, zaq, zar, zas, zat, zau, zav, zaw, zax, zay, zaz, zba, zbb, zbc, zbd, zbe, zbf, zbg, zbh, zbi, zbj, Nat.reduceBEq, Bool.or_self, Bool.or_false, Bool.or_true, Bool.and_true, Bool.and_false, Bool.true_and, Bool.false_and, Option.isNone_none, Option.isNone_some, Option.isSome_some, Option.isSome_none, zbk, zbl, zbm, zbn, zbo, zbp, zbq, zbr, zbs, zbt, zbu, zbv, zbw, zbx, zby, zbz, zca, zcb, zcc, zcd, zce, zcf, zcg, zch, zci, zcj, zck, zcl, zcm, zcn, zco, zcp, zcq, zcr, zcs, zct, zcu, zcv, zcw, zcx, zcy, zcz, zda, zdb, zdc, zdd, zde, zdf, Option.getD_some, Option.getD_none, zet, zeu, zev, zew, zex, zey, zez, zfa, Option.map_some, Option.map_none, Option.bind_some, List.map_cons, List.map_nil, List.cons_append, List.nil_append, ↓reduceIte, Nat.reduceEqDiff, Nat.reduceAdd, decide_true, decide_false, Bool.true_eq_false, Bool.false_eq_true, env0, List.getElem?_cons_zero, List.getElem?_cons_succ, zdg, zdh, zdi, zdj, zdk, zdl, zdm, zdn, ia22, ld31, zdo, zdp, zdq, zdr, zds, zdt, zdu, zdv, zdw, zdx, zdy, zdz, zea, zeb, zec, fa_0, fa_1, zed, bd_0, bd_2, zee, fd_1, zef, Nat.zero_add, st0_2, h]
    exact finish_b _ _ _ _ _ _ _ (by simp only [zfa, ↓reduceIte]) rfl
set_option maxHeartbeats 4000000 in
theorem rint_eq (n d : Nat) (hn : 100000 ≤ n) {w : AV} {z : Int} (hw : IsN w z) : evalFn Tryd.prog cfg0 n (d+3) 26 [.tree w] = some (.tree (intZ z), [[]]) := by
  obtain ⟨g, c1⟩ := cRis n d hw
  have hlt := hw.lt
  obtain ⟨neg0, g0, l0, rfl, _, _⟩ := hw
  rw [evalFn_go _ Tryd.func26 (by unfold Tryd.f26; rfl) (by unfold Tryd.f26; decide) (Nat.le_of_ble_eq_true (by unfold Tryd.f26; rfl)) (by kernel_rfl)]
  have hl := limbs_digs z.natAbs
  have hv := val_digs z.natAbs
  have hdl : ∀ k, (digs z.natAbs).length ≤ k ↔ z.natAbs < B ^ k := digs_len_le z.natAbs
  obtain ⟨l, hle⟩ : ∃ l, digs z.natAbs = l := ⟨_, rfl⟩
  rw [hle] at hl hv hdl
  by_cases h2 : (l.length : Int) > 2
  · have hb : ¬ z.natAbs < B ^ 2 := fun h => by have := (hdl 2).mpr h; omega
    have e : B ^ 2 = 18446744073709551616 := by decide
    rw [e] at hb
    have hi : isI64 z = false := by
      unfold isI64
      by_cases hz : z < 0
      · rw [decide_eq_false (show ¬ -9223372036854775808 ≤ z by omega)]; rfl
      · rw [decide_eq_false (show ¬ z < 9223372036854775808 by omega), Bool.and_false]
    rw [intZ, if_neg (by rw [hi]; decide)]
    simp only [zaa, zab, zac, zad, zae, zaf, zag, zah, zai, zaj, zak, zal, zam, zan, zao, zap, zaq, zar, zas, zat, zau, zav, zaw, zax, zay, zaz, zba, zbb, zbc, zbd, zbe, zbf, zbg, zbh, zbi, zbj, Nat.reduceBEq, Bool.or_self, Bool.or_false, Bool.or_true, Bool.and_true, Bool.and_false, Bool.true_and, Bool.false_and, Option.isNone_none, Option.isNone_some, Option.isSome_some, Option.isSome_none, zbk, zbl, zbm, zbn, zbo, zbp, zbq, zbr, zbs, zbt, zbu, zbv, zbw, zbx, zby, zbz, zca, zcb, zcc, zcd, zce, zcf, zcg, zch, zci, zcj, zck, zcl, zcm, zcn, zco, zcp, zcq, zcr, zcs, zct, zcu, zcv, zcw, zcx, zcy, zcz, zda, zdb, zdc, zdd, zde, zdf, Option.getD_some, Option.getD_none, zet, zeu, zev, zew, zex, zey, zez, zfa, Option.map_some, Option.map_none, Option.bind_some, List.map_cons, List.map_nil, List.cons_append, List.nil_append, ↓reduceIte, Nat.reduceEqDiff, Nat.reduceAdd, decide_true, decide_false, Bool.true_eq_false, Bool.false_eq_true, env0, List.getElem?_cons_zero, List.getElem?_cons_succ, zdg, zdh, zdi, zdj, zdk, zdl, zdm, zdn, ia22, ld31, zdo, zdp, zdq, zdr, zds, zdt, zdu, zdv, zdw, zdx, zdy, zdz, zea, zeb, zec, fa_0, fa_1, zed, bd_0, bd_2, zee, fd_1, zef, Nat.zero_add, st0_1, c1, hle, h2]
    exact finish_ib _ _ _ _ _ _ _ _ _ (by simp only [zfa, ↓reduceIte, Nat.reduceEqDiff]) (by simp only [zfa, ↓reduceIte, Nat.reduceEqDiff]) rfl
  have hx64 : z.natAbs < 18446744073709551616 := by rw [← hv]; exact len2_val l hl (by omega)
  have b0 := i_sub Tryd.prog 3 (l.length : Int) 1 (by omega) (by omega)
  simp only [zaa, zab, zac, zad, zae, zaf, zag, zah, zai, zaj, zak, zal, zam, zan, zao, zap, zaq, zar, zas, zat, zau, zav, zaw, zax, zay, zaz, zba, zbb, zbc, zbd, zbe, zbf, zbg, zbh, zbi, zbj, Nat.reduceBEq, Bool.or_self, Bool.or_false, Bool.or_true, Bool.and_true, Bool.and_false, Bool.true_and, Bool.false_and, Option.isNone_none, Option.isNone_some, Option.isSome_some, Option.isSome_none, zbk, zbl, zbm, zbn, zbo, zbp, zbq, zbr, zbs, zbt, zbu, zbv, zbw, zbx, zby, zbz, zca, zcb, zcc, zcd, zce, zcf, zcg, zch, zci, zcj, zck, zcl, zcm, zcn, zco, zcp, zcq, zcr, zcs, zct, zcu, zcv, zcw, zcx, zcy, zcz, zda, zdb, zdc, zdd, zde, zdf, Option.getD_some, Option.getD_none, zet, zeu, zev, zew, zex, zey, zez, zfa, Option.map_some, Option.map_none, Option.bind_some, List.map_cons, List.map_nil, List.cons_append, List.nil_append, ↓reduceIte, Nat.reduceEqDiff, Nat.reduceAdd, decide_true, decide_false, Bool.true_eq_false, Bool.false_eq_true, env0, List.getElem?_cons_zero, List.getElem?_cons_succ, zdg, zdh, zdi, zdj, zdk, zdl, zdm, zdn, ia22, ld31, zdo, zdp, zdq, zdr, zds, zdt, zdu, zdv, zdw, zdx, zdy, zdz, zea, zeb, zec, fa_0, fa_1, zed, bd_0, bd_2, zee, fd_1, zef, Nat.zero_add, st0_1, c1, hle, h2, b0, den_loop]
  refine loop_ends (X := Nat) (fun j env s => env 4 = .ptr 4 1 0 ∧ s 4 = ⟨1, .buf [.bool (decide (z < 0)), encL g l]⟩ ∧ env 6 = .int .i64 ((j : Int) - 1) ∧ env 5 = .int .u64 (val (l.drop j) : Int) ∧ j ≤ l.length ∧ outsA s 0 [.tree (encA neg0 g0 l0)] = some [[]]) (fun j => j) (fun _ => (.tree (intZ z), [[]])) ?_ n l.length _ _ (by omega) ⟨by simp only [zfa, ↓reduceIte, Nat.reduceEqDiff], by simp only [zfa, ↓reduceIte, Nat.reduceEqDiff], by simp only [zfa, ↓reduceIte, Nat.reduceEqDiff], by rw [List.drop_length]; simp only [zfa, ↓reduceIte, Nat.reduceEqDiff]; rfl, Nat.le_refl _, rfl⟩
  intro k j hx ih env s ⟨e4, hs, e6, e5, hj, ho⟩
  by_cases hp : j = 0
  · subst hp
    have q1 : ¬ ((0 : Nat) : Int) - 1 ≥ 0 := by omega
    rw [List.drop_zero, hv] at e5
    by_cases hz : z < 0
    · by_cases hr : z.natAbs ≤ 9223372036854775808
      · have hr' : (z.natAbs : Int) ≤ 9223372036854775808 := by omega
        have u := un_neg64 z.natAbs (by omega)
        rw [Nat.mod_eq_of_lt (by omega)] at u
        have c2 := fun s => conv55_3 s (18446744073709551616 - z.natAbs) (by omega)
        simp only [if_neg (show ¬ 18446744073709551616 - z.natAbs < 9223372036854775808 by omega), show ((18446744073709551616 - z.natAbs : Nat) : Int) - 18446744073709551616 = z by omega] at c2
        have hi : isI64 z = true := by
          unfold isI64
          rw [decide_eq_true (show -9223372036854775808 ≤ z by omega), decide_eq_true (show z < 9223372036854775808 by omega)]; rfl
        rw [intZ, if_pos hi]
        simp only [zaa, zab, zac, zad, zae, zaf, zag, zah, zai, zaj, zak, zal, zam, zan, zao, zap, zaq, zar, zas, zat, zau, zav, zaw, zax, zay, zaz, zba, zbb, zbc, zbd, zbe, zbf, zbg, zbh, zbi, zbj, Nat.reduceBEq, Bool.or_self, Bool.or_false, Bool.or_true, Bool.and_true, Bool.and_false, Bool.true_and, Bool.false_and, Option.isNone_none, Option.isNone_some, Option.isSome_some, Option.isSome_none, zbk, zbl, zbm, zbn, zbo, zbp, zbq, zbr, zbs, zbt, zbu, zbv, zbw, zbx, zby, zbz, zca, zcb, zcc, zcd, zce, zcf, zcg, zch, zci, zcj, zck, zcl, zcm, zcn, zco, zcp, zcq, zcr, zcs, zct, zcu, zcv, zcw, zcx, zcy, zcz, zda, zdb, zdc, zdd, zde, zdf, Option.getD_some, Option.getD_none, zet, zeu, zev, zew, zex, zey, zez, zfa, Option.map_some, Option.map_none, Option.bind_some, List.map_cons, List.map_nil, List.cons_append, List.nil_append, ↓reduceIte, Nat.reduceEqDiff, Nat.reduceAdd, decide_true, decide_false, Bool.true_eq_false, Bool.false_eq_true, zdg, zdh, zdi, zdj, zdk, zdl, zdm, zdn, ia22, ld31, zdo, zdp, zdq, zdr, zds, zdt, zdu, zdv, zdw, zdx, zdy, zdz, zea, zeb, zec, fa_0, fa_1, zed, bd_0, bd_2, zee, fd_1, zef, Nat.zero_add, e4, hs, e6, e5, q1, hz, hr', u, c2]
        exact finish_ib _ _ _ _ _ _ _ _ _ (by simp only [zfa, ↓reduceIte, Nat.reduceEqDiff]) (by simp only [zfa, ↓reduceIte, Nat.reduceEqDiff]) ho
      · have hr' : ¬ (z.natAbs : Int) ≤ 9223372036854775808 := by omega
        have hi : isI64 z = false := by
          unfold isI64
          rw [decide_eq_false (show ¬ -9223372036854775808 ≤ z by omega)]; rfl
        rw [intZ, if_neg (by rw [hi]; decide)]
        simp only [zaa, zab, zac, zad, zae, zaf, zag, zah, zai, zaj, zak, zal, zam, zan, zao, zap, zaq, zar, zas, zat, zau, zav, zaw, zax, zay, zaz, zba, zbb, zbc, zbd, zbe, zbf, zbg, zbh, zbi, zbj, Nat.reduceBEq, Bool.or_self, Bool.or_false, Bool.or_true, Bool.and_true, Bool.and_false, Bool.true_and, Bool.false_and, Option.isNone_none, Option.isNone_some, Option.isSome_some, Option.isSome_none, zbk, zbl, zbm, zbn, zbo, zbp, zbq, zbr, zbs, zbt, zbu, zbv, zbw, zbx, zby, zbz, zca, zcb, zcc, zcd, zce, zcf, zcg, zch, zci, zcj, zck, zcl, zcm, zcn, zco, zcp, zcq, zcr, zcs, zct, zcu, zcv, zcw, zcx, zcy, zcz, zda, zdb, zdc, zdd, zde, zdf, Option.getD_some, Option.getD_none, zet, zeu, zev, zew, zex, zey, zez, zfa, Option.map_some, Option.map_none, Option.bind_some, List.map_cons, List.map_nil, List.cons_append, List.nil_append, ↓reduceIte, Nat.reduceEqDiff, Nat.reduceAdd, decide_true, decide_false, Bool.true_eq_false, Bool.false_eq_true, zdg, zdh, zdi, zdj, zdk, zdl, zdm, zdn, ia22, ld31, zdo, zdp, zdq, zdr, zds, zdt, zdu, zdv, zdw, zdx, zdy, zdz, zea, zeb, zec, fa_0, fa_1, zed, bd_0, bd_2, zee, fd_1, zef, Nat.zero_add, e4, hs, e6, e5, q1, hz, hr', unA_not', Bool.not_true, Bool.not_false]
        exact finish_ib _ _ _ _ _ _ _ _ _ (by simp only [zfa, ↓reduceIte, Nat.reduceEqDiff]) (by simp only [zfa, ↓reduceIte, Nat.reduceEqDiff]) ho
    · by_cases hr : z.natAbs < 9223372036854775808
      · have hr' : (z.natAbs : Int) < 9223372036854775808 := by omega
        have c2 := fun s => conv55_3 s z.natAbs (by omega)
        simp only [if_pos hr, show ((z.natAbs : Nat) : Int) = z by omega] at c2
        have hi : isI64 z = true := by
          unfold isI64
          rw [decide_eq_true (show -9223372036854775808 ≤ z by omega), decide_eq_true (show z < 9223372036854775808 by omega)]; rfl
        rw [intZ, if_pos hi]
        rw [show ((z.natAbs : Nat) : Int) = z by omega] at e5 hr'
        simp only [zaa, zab, zac, zad, zae, zaf, zag, zah, zai, zaj, zak, zal, zam, zan, zao, zap, zaq, zar, zas, zat, zau, zav, zaw, zax, zay, zaz, zba, zbb, zbc, zbd, zbe, zbf, zbg, zbh, zbi, zbj, Nat.reduceBEq, Bool.or_self, Bool.or_false, Bool.or_true, Bool.and_true, Bool.and_false, Bool.true_and, Bool.false_and, Option.isNone_none, Option.isNone_some, Option.isSome_some, Option.isSome_none, zbk, zbl, zbm, zbn, zbo, zbp, zbq, zbr, zbs, zbt, zbu, zbv, zbw, zbx, zby, zbz, zca, zcb, zcc, zcd, zce, zcf, zcg, zch, zci, zcj, zck, zcl, zcm, zcn, zco, zcp, zcq, zcr, zcs, zct, zcu, zcv, zcw, zcx, zcy, zcz, zda, zdb, zdc, zdd, zde, zdf, Option.getD_some, Option.getD_none, zet, zeu, zev, zew, zex, zey, zez, zfa, Option.map_some, Option.map_none, Option.bind_some, List.map_cons, List.map_nil, List.cons_append, List.nil_append, ↓reduceIte, Nat.reduceEqDiff, Nat.reduceAdd, decide_true, decide_false, Bool.true_eq_false, Bool.false_eq_true, zdg, zdh, zdi, zdj, zdk, zdl, zdm, zdn, ia22, ld31, zdo, zdp, zdq, zdr, zds, zdt, zdu, zdv, zdw, zdx, zdy, zdz, zea, zeb, zec, fa_0, fa_1, zed, bd_0, bd_2, zee, fd_1, zef, Nat.zero_add, e4, hs, e6, e5, q1, hz, hr', c2, unA_not', Bool.not_true, Bool.not_false]
        exact finish_ib _ _ _ _ _ _ _ _ _ (by simp only [zfa, ↓reduceIte, Nat.reduceEqDiff]) (by simp only [zfa, ↓reduceIte, Nat.reduceEqDiff]) ho
      · have hr' : ¬ (z.natAbs : Int) < 9223372036854775808 := by omega
        have hi : isI64 z = false := by
          unfold isI64
          rw [decide_eq_false (show ¬ z < 9223372036854775808 by omega), Bool.and_false]
        rw [intZ, if_neg (by rw [hi]; decide)]
        simp only [zaa, zab, zac, zad, zae, zaf, zag, zah, zai, zaj, zak, zal, zam, zan, zao, zap, zaq, zar, zas, zat, zau, zav, zaw, zax, zay, zaz, zba, zbb, zbc, zbd, zbe, zbf, zbg, zbh, zbi, zbj, Nat.reduceBEq, Bool.or_self, Bool.or_false, Bool.or_true, Bool.and_true, Bool.and_false, Bool.true_and, Bool.false_and, Option.isNone_none, Option.isNone_some, Option.isSome_some, Option.isSome_none, zbk, zbl, zbm, zbn, zbo, zbp, zbq, zbr, zbs, zbt, zbu, zbv, zbw, zbx, zby, zbz, zca, zcb, zcc, zcd, zce, zcf, zcg, zch, zci, zcj, zck, zcl, zcm, zcn, zco, zcp, zcq, zcr, zcs, zct, zcu, zcv, zcw, zcx, zcy, zcz, zda, zdb, zdc, zdd, zde, zdf, Option.getD_some, Option.getD_none, zet, zeu, zev, zew, zex, zey, zez, zfa, Option.map_some, Option.map_none, Option.bind_some, List.map_cons, List.map_nil, List.cons_append, List.nil_append, ↓reduceIte, Nat.reduceEqDiff, Nat.reduceAdd, decide_true, decide_false, Bool.true_eq_false, Bool.false_eq_true, zdg, zdh, zdi, zdj, zdk, zdl, zdm, zdn, ia22, ld31, zdo, zdp, zdq, zdr, zds, zdt, zdu, zdv, zdw, zdx, zdy, zdz, zea, zeb, zec, fa_0, fa_1, zed, bd_0, bd_2, zee, fd_1, zef, Nat.zero_add, e4, hs, e6, e5, q1, hz, hr', unA_not', Bool.not_true, Bool.not_false]
        exact finish_ib _ _ _ _ _ _ _ _ _ (by simp only [zfa, ↓reduceIte, Nat.reduceEqDiff]) (by simp only [zfa, ↓reduceIte, Nat.reduceEqDiff]) ho
  · obtain ⟨i, rfl⟩ : ∃ i, j = i + 1 := ⟨j - 1, by omega⟩
    have ei : ((i + 1 : Nat) : Int) - 1 = (i : Int) := by omega
    rw [ei] at e6
    have q1 : (i : Int) ≥ 0 := by omega
    have q2 : (0 : Int) ≤ (i : Int) := by omega
    have q3 : i < l.length := by omega
    have q4 : (i : Int) < (l.length : Int) := by omega
    have hxi := getD_lt l hl i
    have hd : l.drop i = l.getD i 0 :: l.drop (i + 1) := by
      rw [List.drop_eq_getElem_cons q3, List.getD_eq_getElem?_getD, List.getElem?_eq_getElem q3]; rfl
    have hvd : val (l.drop i) = l.getD i 0 + B * val (l.drop (i + 1)) := by rw [hd]; rfl
    have hB : B = 4294967296 := rfl
    have h64 : val (l.drop i) < 18446744073709551616 := len2_val _ (fun x hx => hl x (List.mem_of_mem_drop hx)) (by rw [List.length_drop]; omega)
    have m2 := u_shl Tryd.prog 55 (val (l.drop (i + 1))) .u64 32 (by decide) (by decide)
    rw [show (2 : Nat) ^ (32 : Int).toNat = 4294967296 from rfl, Nat.mod_eq_of_lt (by rw [hvd, hB] at h64; omega)] at m2
    have m3 := u_add Tryd.prog 55 (val (l.drop (i + 1)) * 4294967296) (l.getD i 0)
    rw [show val (l.drop (i + 1)) * 4294967296 + l.getD i 0 = val (l.drop i) by rw [hvd, hB]; omega, Nat.mod_eq_of_lt h64] at m3
    have f4 := i_sub Tryd.prog 3 (i : Int) 1 (by omega) (by omega)
    simp only [zaa, zab, zac, zad, zae, zaf, zag, zah, zai, zaj, zak, zal, zam, zan, zao, zap, zaq, zar, zas, zat, zau, zav, zaw, zax, zay, zaz, zba, zbb, zbc, zbd, zbe, zbf, zbg, zbh, zbi, zbj, Nat.reduceBEq, Bool.or_self, Bool.or_false, Bool.or_true, Bool.and_true, Bool.and_false, Bool.true_and, Bool.false_and, Option.isNone_none, Option.isNone_some, Option.isSome_some, Option.isSome_none, zbk, zbl, zbm, zbn, zbo, zbp, zbq, zbr, zbs, zbt, zbu, zbv, zbw, zbx, zby, zbz, zca, zcb, zcc, zcd, zce, zcf, zcg, zch, zci, zcj, zck, zcl, zcm, zcn, zco, zcp, zcq, zcr, zcs, zct, zcu, zcv, zcw, zcx, zcy, zcz, zda, zdb, zdc, zdd, zde, zdf, Option.getD_some, Option.getD_none, zet, zeu, zev, zew, zex, zey, zez, zfa, Option.map_some, Option.map_none, Option.bind_some, List.map_cons, List.map_nil, List.cons_append, List.nil_append, ↓reduceIte, Nat.reduceEqDiff, Nat.reduceAdd, decide_true, decide_false, Bool.true_eq_false, Bool.false_eq_true, zdg, zdh, zdi, zdj, zdk, zdl, zdm, zdn, ia22, ld31, zdo, zdp, zdq, zdr, zds, zdt, zdu, zdv, zdw, zdx, zdy, zdz, zea, zeb, zec, fa_0, fa_1, zed, bd_0, bd_2, zee, fd_1, zef, Nat.zero_add, e4, hs, e6, e5, q1, q2, q3, q4, Int.toNat_natCast, hxi, m2, m3, f4]
    refine ih i _ _ (by omega) rfl ⟨?_, hs, ?_, ?_, by omega, ho⟩
    · simp only [zfa, ↓reduceIte, Nat.reduceEqDiff, e4]
    · simp only [zfa, ↓reduceIte, Nat.reduceEqDiff]
    · simp only [zfa, ↓reduceIte, Nat.reduceEqDiff]
theorem cRint (n d : Nat) (hn : 100000 ≤ n) {w : AV} {z : Int} (hw : IsN w z) (D : Nat) (s : St) : callA cfg0 (evalFn Tryd.prog cfg0 n (d+3)) D s 26 [w] = some (intZ z, s) :=
  callA_trees (by simp [hw.tree]) (rint_eq n d hn hw)
end Go.Ab

/- The reference's sums, products, quotients of numbers. Conditions: limbs in range. -/
namespace Go.Ab
open Go.Proofs
set_option maxRecDepth 100000
set_option linter.unusedSimpArgs false

theorem madeF_eq (z : Int) : madeF z = .tup [encA (decide ((mkZ z).1 < 0)) (gm z) (digs (mkZ z).1.natAbs), .bool (mkZ z).2] := rfl
theorem tree_F (v : Nat) : isTree (encF v) = true := rfl
section
variable (n d : Nat) (hn : 100000 ≤ n)
include hn
theorem rqMade {w : AV} {v : Nat} (h : Num w v) (ht : isTree w = true) (neg : Bool) : callQ (evalFn Tryd.prog cfg0 n (d+2)) 47 [.bool neg, w] = some (madeF (sgn neg v)) := qRmade n d hn h ht neg
theorem rqAdd {w w' : AV} {v v' : Nat} (h : Num w v) (h' : Num w' v') (ht : isTree w = true) (ht' : isTree w' = true) : callQ (evalFn Tryd.prog cfg0 n (d+2)) 60 [w, w'] = some (encF (v + v')) := by
  obtain ⟨g, l, rfl, hl, hk, rfl⟩ := h.isL ht
  obtain ⟨g', l', rfl, hl', hk', rfl⟩ := h'.isL ht'
  exact callQ_trees (by cases g <;> cases g' <;> rfl) (radd_eq n d g g' l l' hl hl' (by omega) (by omega) (by omega) (by omega))
theorem rqSub {w w' : AV} {v v' : Nat} (h : Num w v) (h' : Num w' v') (ht : isTree w = true) (ht' : isTree w' = true) : callQ (evalFn Tryd.prog cfg0 n (d+3)) 73 [w, w'] = some (encS v v') := by
  obtain ⟨g, l, rfl, hl, hk, rfl⟩ := h.isL ht
  obtain ⟨g', l', rfl, hl', hk', rfl⟩ := h'.isL ht'
  exact callQ_trees (by cases g <;> cases g' <;> rfl) (rsub_eq n d g g' l l' hl hl' (by omega) (by omega) (by omega) (by omega))
theorem rqMul {w w' : AV} {v v' : Nat} (h : Num w v) (h' : Num w' v') (ht : isTree w = true) (ht' : isTree w' = true) : callQ (evalFn Tryd.prog cfg0 n (d+2)) 50 [w, w'] = some (encF (v * v')) := by
  obtain ⟨g, l, rfl, hl, hk, rfl⟩ := h.isL ht
  obtain ⟨g', l', rfl, hl', hk', rfl⟩ := h'.isL ht'
  exact callQ_trees (by cases g <;> cases g' <;> rfl) (rmul_eq n d g g' l l' hl hl' (by omega) (by omega) (by omega))
end
theorem encS_num (x y : Nat) (h : y ≤ x) : encS x y = encF (x - y) := if_neg (by omega)
set_option maxHeartbeats 4000000 in
theorem rnadd_eq (n d : Nat) (hn : 100000 ≤ n) (g g' : Gk) (z z' : Int) (hlt : z.natAbs < B ^ 12) (hlt' : z'.natAbs < B ^ 12) : evalFn Tryd.prog cfg0 n (d+5) 49 [.tree (canA g z), .tree (canA g' z')] = some (.tree (madeF (z + z')), [[], []]) := by
  rw [evalFn_go _ Tryd.func49 (by unfold Tryd.f49; rfl) (by unfold Tryd.f49; decide) (Nat.le_of_ble_eq_true (by unfold Tryd.f49; rfl)) (by kernel_rfl)]
  have c1 := fun D s => rcCmp n (d + 2) hn D s (num_can g z hlt) (num_can g' z' hlt')
  have eb := bool_eql 4 tk4
  by_cases hs : decide (z < 0) = decide (z' < 0)
  · have hsb : (decide (z < 0) == decide (z' < 0)) = true := by rw [beq_iff_eq]; exact hs
    have c2 := rqAdd n (d + 2) hn (num_can g z hlt) (num_can g' z' hlt') (tree_L _ _) (tree_L _ _)
    have c3 := rqMade n (d + 2) hn (num_F _ 13 (by decide) (lt13 hlt hlt')) (tree_F _) (decide (z < 0))
    rw [add_same z z' hs] at c3
    simp only [zaa, zab, zac, zad, zae, zaf, zag, zah, zai, zaj, zak, zal, zam, zan, zao, zap, zaq, zar, zas, zat, zau, zav, zaw, zax, zay, zaz, zba, zbb, zbc, zbd, zbe, zbf, zbg, zbh, zbi, zbj, Nat.reduceBEq, Bool.or_self, Bool.or_false, Bool.or_true, Bool.and_true, Bool.and_false, Bool.true_and, Bool.false_and, Option.isNone_none, Option.isNone_some, Option.isSome_some, Option.isSome_none, zbk, zbl, zbm, zbn, zbo, zbp, zbq, zbr, zbs, zbt, zbu, zbv, zbw, zbx, zby, zbz, zca, zcb, zcc, zcd, zce, zcf, zcg, zch, zci, zcj, zck, zcl, zcm, zcn, zco, zcp, zcq, zcr, zcs, zct, zcu, zcv, zcw, zcx, zcy, zcz, zda, zdb, zdc, zdd, zde, zdf, Option.getD_some, Option.getD_none, zet, zeu, zev, zew, zex, zey, zez, zfa, Option.map_some, Option.map_none, Option.bind_some, List.map_cons, List.map_nil, List.cons_append, List.nil_append, ↓reduceIte, Nat.reduceEqDiff, Nat.reduceAdd, decide_true, decide_false, Bool.true_eq_false, Bool.false_eq_true, env0, List.getElem?_cons_zero, List.getElem?_cons_succ, zdg, zdh, zdi, zdj, zdk, zdl, zdm, zdn, ia22, ld31, zdo, zdp, zdq, zdr, zds, zdt, zdu, zdv, zdw, zdx, zdy, zdz, zea, zeb, zec, fa_0, fa_1, zed, bd_0, bd_2, zee, fd_1, zef, Nat.zero_add, st0_2, c1, eb, hsb, c2, c3, madeF_eq, ext_0, ext_1, zeb]
    exact finish_ct _ _ 4 4 1 _ _ _ _ _ _ _ (by simp only [zfa, ↓reduceIte, Nat.reduceEqDiff]) (by simp only [zfa, ↓reduceIte, Nat.reduceEqDiff]) (by simp only [zfa, ↓reduceIte, Nat.reduceEqDiff]) rfl
  · have hsb : (decide (z < 0) == decide (z' < 0)) = false := by rw [beq_eq_false_iff_ne]; exact hs
    by_cases hc : z.natAbs < z'.natAbs
    · have hz : ¬ cmpZ z.natAbs z'.natAbs ≥ 0 := by have := (cmpZ_lt _ _).mpr hc; omega
      have c2 := rqSub n (d + 1) hn (num_can g' z' hlt') (num_can g z hlt) (tree_L _ _) (tree_L _ _)
      rw [encS_num _ _ (by omega)] at c2
      have c3 := rqMade n (d + 2) hn (num_F (z'.natAbs - z.natAbs) 12 (by decide) (by omega)) (tree_F _) (decide (z' < 0))
      rw [add_less z z' hs hc] at c3
      simp only [zaa, zab, zac, zad, zae, zaf, zag, zah, zai, zaj, zak, zal, zam, zan, zao, zap, zaq, zar, zas, zat, zau, zav, zaw, zax, zay, zaz, zba, zbb, zbc, zbd, zbe, zbf, zbg, zbh, zbi, zbj, Nat.reduceBEq, Bool.or_self, Bool.or_false, Bool.or_true, Bool.and_true, Bool.and_false, Bool.true_and, Bool.false_and, Option.isNone_none, Option.isNone_some, Option.isSome_some, Option.isSome_none, zbk, zbl, zbm, zbn, zbo, zbp, zbq, zbr, zbs, zbt, zbu, zbv, zbw, zbx, zby, zbz, zca, zcb, zcc, zcd, zce, zcf, zcg, zch, zci, zcj, zck, zcl, zcm, zcn, zco, zcp, zcq, zcr, zcs, zct, zcu, zcv, zcw, zcx, zcy, zcz, zda, zdb, zdc, zdd, zde, zdf, Option.getD_some, Option.getD_none, zet, zeu, zev, zew, zex, zey, zez, zfa, Option.map_some, Option.map_none, Option.bind_some, List.map_cons, List.map_nil, List.cons_append, List.nil_append, ↓reduceIte, Nat.reduceEqDiff, Nat.reduceAdd, decide_true, decide_false, Bool.true_eq_false, Bool.false_eq_true, env0, List.getElem?_cons_zero, List.getElem?_cons_succ, zdg, zdh, zdi, zdj, zdk, zdl, zdm, zdn, ia22, ld31, zdo, zdp, zdq, zdr, zds, zdt, zdu, zdv, zdw, zdx, zdy, zdz, zea, zeb, zec, fa_0, fa_1, zed, bd_0, bd_2, zee, fd_1, zef, Nat.zero_add, st0_2, c1, eb, hsb, hz, c2, c3, madeF_eq, ext_0, ext_1, zeb]
      exact finish_ct _ _ 4 4 1 _ _ _ _ _ _ _ (by simp only [zfa, ↓reduceIte, Nat.reduceEqDiff]) (by simp only [zfa, ↓reduceIte, Nat.reduceEqDiff]) (by simp only [zfa, ↓reduceIte, Nat.reduceEqDiff]) rfl
    · have hz : cmpZ z.natAbs z'.natAbs ≥ 0 := by
        have : ¬ cmpZ z.natAbs z'.natAbs < 0 := fun h => hc ((cmpZ_lt _ _).mp h)
        omega
      have c2 := rqSub n (d + 1) hn (num_can g z hlt) (num_can g' z' hlt') (tree_L _ _) (tree_L _ _)
      rw [encS_num _ _ (by omega)] at c2
      have c3 := rqMade n (d + 2) hn (num_F (z.natAbs - z'.natAbs) 12 (by decide) (by omega)) (tree_F _) (decide (z < 0))
      rw [add_more z z' hs hc] at c3
      simp only [zaa, zab, zac, zad, zae, zaf, zag, zah, zai, zaj, zak, zal, zam, zan, zao, zap, zaq, zar, zas, zat, zau, zav, zaw, zax, zay, zaz, zba, zbb, zbc, zbd, zbe, zbf, zbg, zbh, zbi, zbj, Nat.reduceBEq, Bool.or_self, Bool.or_false, Bool.or_true, Bool.and_true, Bool.and_false, Bool.true_and, Bool.false_and, Option.isNone_none, Option.isNone_some, Option.isSome_some, Option.isSome_none, zbk, zbl, zbm, zbn, zbo, zbp, zbq, zbr, zbs, zbt, zbu, zbv, zbw, zbx, zby, zbz, zca, zcb, zcc, zcd, zce, zcf, zcg, zch, zci, zcj, zck, zcl, zcm, zcn, zco, zcp, zcq, zcr, zcs, zct, zcu, zcv, zcw, zcx, zcy, zcz, zda, zdb, zdc, zdd, zde, zdf, Option.getD_some, Option.getD_none, zet, zeu, zev, zew, zex, zey, zez, zfa, Option.map_some, Option.map_none, Option.bind_some, List.map_cons, List.map_nil, List.cons_append, List.nil_append, ↓reduceIte, Nat.reduceEqDiff, Nat.reduceAdd, decide_true, decide_false, Bool.true_eq_false, Bool.false_eq_true, env0, List.getElem?_cons_zero, List.getElem?_cons_succ, zdg, zdh, zdi, zdj, zdk, zdl, zdm, zdn, ia22, ld31, zdo, zdp, zdq, zdr, zds, zdt, zdu, zdv, zdw, zdx, zdy, zdz, zea, zeb, zec, fa_0, fa_1, zed, bd_0, bd_2, zee, fd_1, zef, Nat.zero_add, st0_2, c1, eb, hsb, hz, c2, c3, madeF_eq, ext_0, ext_1, zeb]
      exact finish_ct _ _ 4 4 1 _ _ _ _ _ _ _ (by simp only [zfa, ↓reduceIte, Nat.reduceEqDiff]) (by simp only [zfa, ↓reduceIte, Nat.reduceEqDiff]) (by simp only [zfa, ↓reduceIte, Nat.reduceEqDiff]) rfl
theorem rcAddC (n d : Nat) (hn : 100000 ≤ n) (g g' : Gk) (z z' : Int) (hlt : z.natAbs < B ^ 12) (hlt' : z'.natAbs < B ^ 12) (D : Nat) (s : St) : callA cfg0 (evalFn Tryd.prog cfg0 n (d+5)) D s 49 [canA g z, canA g' z'] = some (madeF (z + z'), s) :=
  callA_trees rfl (rnadd_eq n d hn g g' z z' hlt hlt')
theorem rqAddC (n d : Nat) (hn : 100000 ≤ n) (g g' : Gk) (z z' : Int) (hlt : z.natAbs < B ^ 12) (hlt' : z'.natAbs < B ^ 12) : callQ (evalFn Tryd.prog cfg0 n (d+5)) 49 [canA g z, canA g' z'] = some (madeF (z + z')) :=
  callQ_trees rfl (rnadd_eq n d hn g g' z z' hlt hlt')
theorem rcDiv (n d : Nat) (hn : 100000 ≤ n) (g g' : Gk) (z z' : Int) (hlt : z.natAbs < B ^ 12) (hlt' : z'.natAbs < B ^ 12) (h0 : z'.natAbs ≠ 0) (D : Nat) (s : St) : callA cfg0 (evalFn Tryd.prog cfg0 n (d+5)) D s 51 [encL g (digs z.natAbs), encL g' (digs z'.natAbs)] = some (.tup [encF (z.natAbs / z'.natAbs), encQ (blen z.natAbs) (z.natAbs % z'.natAbs)], s) := by
  have h := rdiv_eq n (d + 1) g g' (digs z.natAbs) (digs z'.natAbs) (limbs_digs _) (limbs_digs _) hn (by have := digs_len _ 12 hlt; omega) (by have := digs_len _ 12 hlt'; omega)
  rw [val_digs, val_digs, divR, if_neg h0] at h
  exact callA_L2 _ _ _ _ _ _ _ _ _ h
theorem tree_Q (b r : Nat) : isTree (encQ b r) = true := by unfold encQ; split <;> rfl
section
variable (n d : Nat) (hn : 100000 ≤ n) {w w' : AV} {z z' : Int} (hw : IsN w z) (hw' : IsN w' z')
include hn hw hw'
set_option maxHeartbeats 8000000
theorem rop1_eq : evalFn Tryd.prog cfg0 n (d+6) 25 [.tree (.int .i64 1), .tree w, .tree w'] = some (.tree (madeF (z + z')), [[], [], []]) := by
  obtain ⟨g, c1⟩ := qRis n (d + 3) hw
  obtain ⟨g', c2⟩ := qRis n (d + 3) hw'
  have hlt := hw.lt
  have hlt' := hw'.lt
  obtain ⟨neg, g0, l, rfl, hl, hz⟩ := hw
  obtain ⟨neg', g0', l', rfl, hl', hz'⟩ := hw'
  rw [evalFn_go _ Tryd.func25 (by unfold Tryd.f25; rfl) (by unfold Tryd.f25; decide) (Nat.le_of_ble_eq_true (by unfold Tryd.f25; rfl)) (by kernel_rfl)]
  have c3 := fun D s => rcAddC n d hn g g' z z' hlt hlt' D s
  simp only [zaa, zab, zac, zad, zae, zaf, zag, zah, zai, zaj, zak, zal, zam, zan, zao, zap, zaq, zar, zas, zat, zau, zav, zaw, zax, zay, zaz, zba, zbb, zbc, zbd, zbe, zbf, zbg, zbh, zbi, zbj, Nat.reduceBEq, Bool.or_self, Bool.or_false, Bool.or_true, Bool.and_true, Bool.and_false, Bool.true_and, Bool.false_and, Option.isNone_none, Option.isNone_some, Option.isSome_some, Option.isSome_none, zbk, zbl, zbm, zbn, zbo, zbp, zbq, zbr, zbs, zbt, zbu, zbv, zbw, zbx, zby, zbz, zca, zcb, zcc, zcd, zce, zcf, zcg, zch, zci, zcj, zck, zcl, zcm, zcn, zco, zcp, zcq, zcr, zcs, zct, zcu, zcv, zcw, zcx, zcy, zcz, zda, zdb, zdc, zdd, zde, zdf, Option.getD_some, Option.getD_none, zet, zeu, zev, zew, zex, zey, zez, zfa, Option.map_some, Option.map_none, Option.bind_some, List.map_cons, List.map_nil, List.cons_append, List.nil_append, ↓reduceIte, Nat.reduceEqDiff, Nat.reduceAdd, decide_true, decide_false, Bool.true_eq_false, Bool.false_eq_true, env0, List.getElem?_cons_zero, List.getElem?_cons_succ, zdg, zdh, zdi, zdj, zdk, zdl, zdm, zdn, ia22, ld31, zdo, zdp, zdq, zdr, zds, zdt, zdu, zdv, zdw, zdx, zdy, zdz, zea, zeb, zec, fa_0, fa_1, zed, bd_0, bd_2, zee, fd_1, zef, Nat.zero_add, st0_3', c1, c2, Int.reduceBEq, c3, madeF_eq, ext_0, ext_1, zeb]
  exact finish_ct _ _ 6 6 1 _ _ _ _ _ _ _ (by simp only [zfa, ↓reduceIte, Nat.reduceEqDiff]) (by simp only [zfa, ↓reduceIte, Nat.reduceEqDiff]) (by simp only [zfa, ↓reduceIte, Nat.reduceEqDiff]) rfl
theorem rop2_eq : evalFn Tryd.prog cfg0 n (d+6) 25 [.tree (.int .i64 2), .tree w, .tree w'] = some (.tree (madeF (z - z')), [[], [], []]) := by
  obtain ⟨g, c1⟩ := qRis n (d + 3) hw
  obtain ⟨g', c2⟩ := qRis n (d + 3) hw'
  have hlt := hw.lt
  have hlt' := hw'.lt
  obtain ⟨neg, g0, l, rfl, hl, hz⟩ := hw
  obtain ⟨neg', g0', l', rfl, hl', hz'⟩ := hw'
  rw [evalFn_go _ Tryd.func25 (by unfold Tryd.f25; rfl) (by unfold Tryd.f25; decide) (Nat.le_of_ble_eq_true (by unfold Tryd.f25; rfl)) (by kernel_rfl)]
  have c4 := qRneg n (d + 2) hn (isN_can g' z' hlt')
  have c3 := rqAddC n d hn g .l z (-z') hlt (by omega)
  rw [show z + -z' = z - z' by omega] at c3
  simp only [zaa, zab, zac, zad, zae, zaf, zag, zah, zai, zaj, zak, zal, zam, zan, zao, zap, zaq, zar, zas, zat, zau, zav, zaw, zax, zay, zaz, zba, zbb, zbc, zbd, zbe, zbf, zbg, zbh, zbi, zbj, Nat.reduceBEq, Bool.or_self, Bool.or_false, Bool.or_true, Bool.and_true, Bool.and_false, Bool.true_and, Bool.false_and, Option.isNone_none, Option.isNone_some, Option.isSome_some, Option.isSome_none, zbk, zbl, zbm, zbn, zbo, zbp, zbq, zbr, zbs, zbt, zbu, zbv, zbw, zbx, zby, zbz, zca, zcb, zcc, zcd, zce, zcf, zcg, zch, zci, zcj, zck, zcl, zcm, zcn, zco, zcp, zcq, zcr, zcs, zct, zcu, zcv, zcw, zcx, zcy, zcz, zda, zdb, zdc, zdd, zde, zdf, Option.getD_some, Option.getD_none, zet, zeu, zev, zew, zex, zey, zez, zfa, Option.map_some, Option.map_none, Option.bind_some, List.map_cons, List.map_nil, List.cons_append, List.nil_append, ↓reduceIte, Nat.reduceEqDiff, Nat.reduceAdd, decide_true, decide_false, Bool.true_eq_false, Bool.false_eq_true, env0, List.getElem?_cons_zero, List.getElem?_cons_succ, zdg, zdh, zdi, zdj, zdk, zdl, zdm, zdn, ia22, ld31, zdo, zdp, zdq, zdr, zds, zdt, zdu, zdv, zdw, zdx, zdy, zdz, zea, zeb, zec, fa_0, fa_1, zed, bd_0, bd_2, zee, fd_1, zef, Nat.zero_add, st0_3', c1, c2, Int.reduceBEq, c4, c3, madeF_eq, ext_0, ext_1, zeb]
  exact finish_ct _ _ 6 6 1 _ _ _ _ _ _ _ (by simp only [zfa, ↓reduceIte, Nat.reduceEqDiff]) (by simp only [zfa, ↓reduceIte, Nat.reduceEqDiff]) (by simp only [zfa, ↓reduceIte, Nat.reduceEqDiff]) rfl
theorem rop3_eq : evalFn Tryd.prog cfg0 n (d+6) 25 [.tree (.int .i64 3), .tree w, .tree w'] = some (.tree (madeF (z * z')), [[], [], []]) := by
  obtain ⟨g, c1⟩ := qRis n (d + 3) hw
  obtain ⟨g', c2⟩ := qRis n (d + 3) hw'
  have hlt := hw.lt
  have hlt' := hw'.lt
  obtain ⟨neg, g0, l, rfl, hl, hz⟩ := hw
  obtain ⟨neg', g0', l', rfl, hl', hz'⟩ := hw'
  rw [evalFn_go _ Tryd.func25 (by unfold Tryd.f25; rfl) (by unfold Tryd.f25; decide) (Nat.le_of_ble_eq_true (by unfold Tryd.f25; rfl)) (by kernel_rfl)]
  have en := bool_neq 4 tk4
  have c3 := rqMul n (d + 3) hn (num_can g z hlt) (num_can g' z' hlt') (tree_L _ _) (tree_L _ _)
  have hp : z.natAbs * z'.natAbs < B ^ 24 := by rw [show (24 : Nat) = 12 + 12 from rfl, Nat.pow_add]; exact Nat.mul_lt_mul'' hlt hlt'
  have c4 := rqMade n (d + 3) hn (num_F _ 24 (by decide) hp) (tree_F _) (!(decide (z < 0) == decide (z' < 0)))
  rw [mul_sgn] at c4
  simp only [zaa, zab, zac, zad, zae, zaf, zag, zah, zai, zaj, zak, zal, zam, zan, zao, zap, zaq, zar, zas, zat, zau, zav, zaw, zax, zay, zaz, zba, zbb, zbc, zbd, zbe, zbf, zbg, zbh, zbi, zbj, Nat.reduceBEq, Bool.or_self, Bool.or_false, Bool.or_true, Bool.and_true, Bool.and_false, Bool.true_and, Bool.false_and, Option.isNone_none, Option.isNone_some, Option.isSome_some, Option.isSome_none, zbk, zbl, zbm, zbn, zbo, zbp, zbq, zbr, zbs, zbt, zbu, zbv, zbw, zbx, zby, zbz, zca, zcb, zcc, zcd, zce, zcf, zcg, zch, zci, zcj, zck, zcl, zcm, zcn, zco, zcp, zcq, zcr, zcs, zct, zcu, zcv, zcw, zcx, zcy, zcz, zda, zdb, zdc, zdd, zde, zdf, Option.getD_some, Option.getD_none, zet, zeu, zev, zew, zex, zey, zez, zfa, Option.map_some, Option.map_none, Option.bind_some, List.map_cons, List.map_nil, List.cons_append, List.nil_append, ↓reduceIte, Nat.reduceEqDiff, Nat.reduceAdd, decide_true, decide_false, Bool.true_eq_false, Bool.false_eq_true, env0, List.getElem?_cons_zero, List.getElem?_cons_succ, zdg, zdh, zdi, zdj, zdk, zdl, zdm, zdn, ia22, ld31, zdo, zdp, zdq, zdr, zds, zdt, zdu, zdv, zdw, zdx, zdy, zdz, zea, zeb, zec, fa_0, fa_1, zed, bd_0, bd_2, zee, fd_1, zef, Nat.zero_add, st0_3', c1, c2, Int.reduceBEq, en, c3, c4, madeF_eq, ext_0, ext_1, zeb]
  exact finish_ct _ _ 6 6 1 _ _ _ _ _ _ _ (by simp only [zfa, ↓reduceIte, Nat.reduceEqDiff]) (by simp only [zfa, ↓reduceIte, Nat.reduceEqDiff]) (by simp only [zfa, ↓reduceIte, Nat.reduceEqDiff]) rfl
theorem rop4_eq : evalFn Tryd.prog cfg0 n (d+6) 25 [.tree (.int .i64 4), .tree w, .tree w'] = some (.tree (if z' = 0 then .tup [encA false .n [], .bool false] else madeF (z.tdiv z')), [[], [], []]) := by
  obtain ⟨g, c1⟩ := qRis n (d + 3) hw
  obtain ⟨g', c2⟩ := qRis n (d + 3) hw'
  have hlt := hw.lt
  have hlt' := hw'.lt
  obtain ⟨neg, g0, l, rfl, hl, hz⟩ := hw
  obtain ⟨neg', g0', l', rfl, hl', hz'⟩ := hw'
  rw [evalFn_go _ Tryd.func25 (by unfold Tryd.f25; rfl) (by unfold Tryd.f25; decide) (Nat.le_of_ble_eq_true (by unfold Tryd.f25; rfl)) (by kernel_rfl)]
  by_cases h0 : z' = 0
  · have p0 : (((digs z'.natAbs).length : Int) == 0) = true := by rw [h0]; simp [digs_0]
    rw [if_pos h0]
    simp only [zaa, zab, zac, zad, zae, zaf, zag, zah, zai, zaj, zak, zal, zam, zan, zao, zap, zaq, zar, zas, zat, zau, zav, zaw, zax, zay, zaz, zba, zbb, zbc, zbd, zbe, zbf, zbg, zbh, zbi, zbj, Nat.reduceBEq, Bool.or_self, Bool.or_false, Bool.or_true, Bool.and_true, Bool.and_false, Bool.true_and, Bool.false_and, Option.isNone_none, Option.isNone_some, Option.isSome_some, Option.isSome_none, zbk, zbl, zbm, zbn, zbo, zbp, zbq, zbr, zbs, zbt, zbu, zbv, zbw, zbx, zby, zbz, zca, zcb, zcc, zcd, zce, zcf, zcg, zch, zci, zcj, zck, zcl, zcm, zcn, zco, zcp, zcq, zcr, zcs, zct, zcu, zcv, zcw, zcx, zcy, zcz, zda, zdb, zdc, zdd, zde, zdf, Option.getD_some, Option.getD_none, zet, zeu, zev, zew, zex, zey, zez, zfa, Option.map_some, Option.map_none, Option.bind_some, List.map_cons, List.map_nil, List.cons_append, List.nil_append, ↓reduceIte, Nat.reduceEqDiff, Nat.reduceAdd, decide_true, decide_false, Bool.true_eq_false, Bool.false_eq_true, env0, List.getElem?_cons_zero, List.getElem?_cons_succ, zdg, zdh, zdi, zdj, zdk, zdl, zdm, zdn, ia22, ld31, zdo, zdp, zdq, zdr, zds, zdt, zdu, zdv, zdw, zdx, zdy, zdz, zea, zeb, zec, fa_0, fa_1, zed, bd_0, bd_2, zee, fd_1, zef, Nat.zero_add, st0_3', c1, c2, Int.reduceBEq, p0]
    exact finish_ct _ _ 6 6 1 _ _ _ _ _ _ _ (by simp only [zfa, ↓reduceIte, Nat.reduceEqDiff]) (by simp only [zfa, ↓reduceIte, Nat.reduceEqDiff]) (by simp only [zfa, ↓reduceIte, Nat.reduceEqDiff]) rfl
  · have p0 : (((digs z'.natAbs).length : Int) == 0) = false := by
      rw [beq_eq_false_iff_ne]
      intro h
      have := (digs_len0 z'.natAbs).mp (by omega)
      omega
    rw [if_neg h0]
    have en := bool_neq 4 tk4
    have hz0 : z'.natAbs ≠ 0 := by omega
    have c3 := fun D s => rcDiv n d hn g g' z z' hlt hlt' hz0 D s
    have c4 := fun D s => cRmade n (d + 3) hn D s (num_F (z.natAbs / z'.natAbs) 12 (by decide) (Nat.lt_of_le_of_lt (Nat.div_le_self _ _) hlt)) (!(decide (z < 0) == decide (z' < 0)))
    rw [quo_sgn] at c4
    simp only [zaa, zab, zac, zad, zae, zaf, zag, zah, zai, zaj, zak, zal, zam, zan, zao, zap, zaq, zar, zas, zat, zau, zav, zaw, zax, zay, zaz, zba, zbb, zbc, zbd, zbe, zbf, zbg, zbh, zbi, zbj, Nat.reduceBEq, Bool.or_self, Bool.or_false, Bool.or_true, Bool.and_true, Bool.and_false, Bool.true_and, Bool.false_and, Option.isNone_none, Option.isNone_some, Option.isSome_some, Option.isSome_none, zbk, zbl, zbm, zbn, zbo, zbp, zbq, zbr, zbs, zbt, zbu, zbv, zbw, zbx, zby, zbz, zca, zcb, zcc, zcd, zce, zcf, zcg, zch, zci, zcj, zck, zcl, zcm, zcn, zco, zcp, zcq, zcr, zcs, zct, zcu, zcv, zcw, zcx, zcy, zcz, zda, zdb, zdc, zdd, zde, zdf, Option.getD_some, Option.getD_none, zet, zeu, zev, zew, zex, zey, zez, zfa, Option.map_some, Option.map_none, Option.bind_some, List.map_cons, List.map_nil, List.cons_append, List.nil_append, ↓reduceIte, Nat.reduceEqDiff, Nat.reduceAdd, decide_true, decide_false, Bool.true_eq_false, Bool.false_eq_true, env0, List.getElem?_cons_zero, List.getElem?_cons_succ, zdg, zdh, zdi, zdj, zdk, zdl, zdm, zdn, ia22, ld31, zdo, zdp, zdq, zdr, zds, zdt, zdu, zdv, zdw, zdx, zdy, zdz, zea, zeb, zec, fa_0, fa_1, zed, bd_0, bd_2, zee, fd_1, zef, Nat.zero_add, st0_3', c1, c2, Int.reduceBEq, p0, en, c3, c4, madeF_eq, ext_0, ext_1, zeb]
    exact finish_ct _ _ 6 6 1 _ _ _ _ _ _ _ (by simp only [zfa, ↓reduceIte, Nat.reduceEqDiff]) (by simp only [zfa, ↓reduceIte, Nat.reduceEqDiff]) (by simp only [zfa, ↓reduceIte, Nat.reduceEqDiff]) rfl
theorem rop5_eq : evalFn Tryd.prog cfg0 n (d+6) 25 [.tree (.int .i64 5), .tree w, .tree w'] = some (.tree (if z' = 0 then .tup [encA false .n [], .bool false] else madeF (z.tmod z')), [[], [], []]) := by
  obtain ⟨g, c1⟩ := qRis n (d + 3) hw
  obtain ⟨g', c2⟩ := qRis n (d + 3) hw'
  have hlt := hw.lt
  have hlt' := hw'.lt
  obtain ⟨neg, g0, l, rfl, hl, hz⟩ := hw
  obtain ⟨neg', g0', l', rfl, hl', hz'⟩ := hw'
  rw [evalFn_go _ Tryd.func25 (by unfold Tryd.f25; rfl) (by unfold Tryd.f25; decide) (Nat.le_of_ble_eq_true (by unfold Tryd.f25; rfl)) (by kernel_rfl)]
  by_cases h0 : z' = 0
  · have p0 : (((digs z'.natAbs).length : Int) == 0) = true := by rw [h0]; simp [digs_0]
    rw [if_pos h0]
    simp only [zaa, zab, zac, zad, zae, zaf, zag, zah, zai, zaj, zak, zal, zam, zan, zao, zap, zaq, zar, zas, zat, zau, zav, zaw, zax, zay, zaz, zba, zbb, zbc, zbd, zbe, zbf, zbg, zbh, zbi, zbj, Nat.reduceBEq, Bool.or_self, Bool.or_false, Bool.or_true, Bool.and_true, Bool.and_false, Bool.true_and, Bool.false_and, Option.isNone_none, Option.isNone_some, Option.isSome_some, Option.isSome_none, zbk, zbl, zbm, zbn, zbo, zbp, zbq, zbr, zbs, zbt, zbu, zbv, zbw, zbx, zby, zbz, zca, zcb, zcc, zcd, zce, zcf, zcg, zch, zci, zcj, zck, zcl, zcm, zcn, zco, zcp, zcq, zcr, zcs, zct, zcu, zcv, zcw, zcx, zcy, zcz, zda, zdb, zdc, zdd, zde, zdf, Option.getD_some, Option.getD_none, zet, zeu, zev, zew, zex, zey, zez, zfa, Option.map_some, Option.map_none, Option.bind_some, List.map_cons, List.map_nil, List.cons_append, List.nil_append, ↓reduceIte, Nat.reduceEqDiff, Nat.reduceAdd, decide_true, decide_false, Bool.true_eq_false, Bool.false_eq_true, env0, List.getElem?_cons_zero, List.getElem?_cons_succ, zdg, zdh, zdi, zdj, zdk, zdl, zdm, zdn, ia22, ld31, zdo, zdp, zdq, zdr, zds, zdt, zdu, zdv, zdw, zdx, zdy, zdz, zea, zeb, zec, fa_0, fa_1, zed, bd_0, bd_2, zee, fd_1, zef, Nat.zero_add, st0_3', c1, c2, Int.reduceBEq, p0]
    exact finish_ct _ _ 6 6 1 _ _ _ _ _ _ _ (by simp only [zfa, ↓reduceIte, Nat.reduceEqDiff]) (by simp only [zfa, ↓reduceIte, Nat.reduceEqDiff]) (by simp only [zfa, ↓reduceIte, Nat.reduceEqDiff]) rfl
  · have p0 : (((digs z'.natAbs).length : Int) == 0) = false := by
      rw [beq_eq_false_iff_ne]
      intro h
      have := (digs_len0 z'.natAbs).mp (by omega)
      omega
    rw [if_neg h0]
    have hz0 : z'.natAbs ≠ 0 := by omega
    have c3 := fun D s => rcDiv n d hn g g' z z' hlt hlt' hz0 D s
    have c4 := fun D s => cRmade n (d + 3) hn D s (encQ_num (blen z.natAbs) (z.natAbs % z'.natAbs) 12 (by decide) (Nat.lt_of_le_of_lt (Nat.mod_le _ _) hlt) (fun hb => by rw [(blen_eq0 _).mp hb, Nat.zero_mod])) (decide (z < 0))
    rw [rem_sgn] at c4
    simp only [zaa, zab, zac, zad, zae, zaf, zag, zah, zai, zaj, zak, zal, zam, zan, zao, zap, zaq, zar, zas, zat, zau, zav, zaw, zax, zay, zaz, zba, zbb, zbc, zbd, zbe, zbf, zbg, zbh, zbi, zbj, Nat.reduceBEq, Bool.or_self, Bool.or_false, Bool.or_true, Bool.and_true, Bool.and_false, Bool.true_and, Bool.false_and, Option.isNone_none, Option.isNone_some, Option.isSome_some, Option.isSome_none, zbk, zbl, zbm, zbn, zbo, zbp, zbq, zbr, zbs, zbt, zbu, zbv, zbw, zbx, zby, zbz, zca, zcb, zcc, zcd, zce, zcf, zcg, zch, zci, zcj, zck, zcl, zcm, zcn, zco, zcp, zcq, zcr, zcs, zct, zcu, zcv, zcw, zcx, zcy, zcz, zda, zdb, zdc, zdd, zde, zdf, Option.getD_some, Option.getD_none, zet, zeu, zev, zew, zex, zey, zez, zfa, Option.map_some, Option.map_none, Option.bind_some, List.map_cons, List.map_nil, List.cons_append, List.nil_append, ↓reduceIte, Nat.reduceEqDiff, Nat.reduceAdd, decide_true, decide_false, Bool.true_eq_false, Bool.false_eq_true, env0, List.getElem?_cons_zero, List.getElem?_cons_succ, zdg, zdh, zdi, zdj, zdk, zdl, zdm, zdn, ia22, ld31, zdo, zdp, zdq, zdr, zds, zdt, zdu, zdv, zdw, zdx, zdy, zdz, zea, zeb, zec, fa_0, fa_1, zed, bd_0, bd_2, zee, fd_1, zef, Nat.zero_add, st0_3', c1, c2, Int.reduceBEq, p0, c3, c4, madeF_eq, ext_0, ext_1, zeb]
    exact finish_ct _ _ 6 6 1 _ _ _ _ _ _ _ (by simp only [zfa, ↓reduceIte, Nat.reduceEqDiff]) (by simp only [zfa, ↓reduceIte, Nat.reduceEqDiff]) (by simp only [zfa, ↓reduceIte, Nat.reduceEqDiff]) rfl
end
end Go.Ab

/- The reference's bits: and, or, exclusive or, bit by bit. Conditions: limbs in range. -/
namespace Go.Ab
open Go.Proofs
set_option maxRecDepth 100000
set_option linter.unusedSimpArgs false

theorem func3_eq (n d op : Nat) (ho : op = 6 ∨ op = 7 ∨ op = 8) (p q : Bool) : evalFn Tryd.prog cfg0 n (d+1) 76 [.tree (.int .i64 (op : Int)), .tree (.bool p), .tree (.bool q)] = some (.tree (.bool (f3 op p q)), [[], [], []]) := by
  rw [evalFn_go _ Tryd.func76 (by unfold Tryd.f76; rfl) (by unfold Tryd.f76; decide) (Nat.le_of_ble_eq_true (by unfold Tryd.f76; rfl)) (by kernel_rfl)]
  have en := bool_neq 4 tk4
  rcases ho with rfl | rfl | rfl
  · have f6 : (((6 : Nat) : Int) == 6) = true := rfl
    cases p <;> simp only [zaa, zab, zac, zad, zae, zaf, zag, zah, zai, zaj, zak, zal, zam, zan, zao, zap, zaq, zar, zas, zat, zau, zav, zaw, zax, zay, zaz, zba, zbb, zbc, zbd, zbe, zbf, zbg, zbh, zbi, zbj, Nat.reduceBEq, Bool.or_self, Bool.or_false, Bool.or_true, Bool.and_true, Bool.and_false, Bool.true_and, Bool.false_and, Option.isNone_none, Option.isNone_some, Option.isSome_some, Option.isSome_none, zbk, zbl, zbm, zbn, zbo, zbp, zbq, zbr, zbs, zbt, zbu, zbv, zbw, zbx, zby, zbz, zca, zcb, zcc, zcd, zce, zcf, zcg, zch, zci, zcj, zck, zcl, zcm, zcn, zco, zcp, zcq, zcr, zcs, zct, zcu, zcv, zcw, zcx, zcy, zcz, zda, zdb, zdc, zdd, zde, zdf, Option.getD_some, Option.getD_none, zet, zeu, zev, zew, zex, zey, zez, zfa, Option.map_some, Option.map_none, Option.bind_some, List.map_cons, List.map_nil, List.cons_append, List.nil_append, ↓reduceIte, Nat.reduceEqDiff, Nat.reduceAdd, decide_true, decide_false, Bool.true_eq_false, Bool.false_eq_true, env0, List.getElem?_cons_zero, List.getElem?_cons_succ, zdg, zdh, zdi, zdj, zdk, zdl, zdm, zdn, ia22, ld31, zdo, zdp, zdq, zdr, zds, zdt, zdu, zdv, zdw, zdx, zdy, zdz, zea, zeb, zec, fa_0, fa_1, zed, bd_0, bd_2, zee, fd_1, zef, Nat.zero_add, st0_3', f6] <;> exact finish_b _ _ _ _ _ _ _ (by simp only [zfa, ↓reduceIte]; rfl) rfl
  · have f6 : (((7 : Nat) : Int) == 6) = false := rfl
    have f7 : (((7 : Nat) : Int) == 7) = true := rfl
    cases p <;> simp only [zaa, zab, zac, zad, zae, zaf, zag, zah, zai, zaj, zak, zal, zam, zan, zao, zap, zaq, zar, zas, zat, zau, zav, zaw, zax, zay, zaz, zba, zbb, zbc, zbd, zbe, zbf, zbg, zbh, zbi, zbj, Nat.reduceBEq, Bool.or_self, Bool.or_false, Bool.or_true, Bool.and_true, Bool.and_false, Bool.true_and, Bool.false_and, Option.isNone_none, Option.isNone_some, Option.isSome_some, Option.isSome_none, zbk, zbl, zbm, zbn, zbo, zbp, zbq, zbr, zbs, zbt, zbu, zbv, zbw, zbx, zby, zbz, zca, zcb, zcc, zcd, zce, zcf, zcg, zch, zci, zcj, zck, zcl, zcm, zcn, zco, zcp, zcq, zcr, zcs, zct, zcu, zcv, zcw, zcx, zcy, zcz, zda, zdb, zdc, zdd, zde, zdf, Option.getD_some, Option.getD_none, zet, zeu, zev, zew, zex, zey, zez, zfa, Option.map_some, Option.map_none, Option.bind_some, List.map_cons, List.map_nil, List.cons_append, List.nil_append, ↓reduceIte, Nat.reduceEqDiff, Nat.reduceAdd, decide_true, decide_false, Bool.true_eq_false, Bool.false_eq_true, env0, List.getElem?_cons_zero, List.getElem?_cons_succ, zdg, zdh, zdi, zdj, zdk, zdl, zdm, zdn, ia22, ld31, zdo, zdp, zdq, zdr, zds, zdt, zdu, zdv, zdw, zdx, zdy, zdz, zea, zeb, zec, fa_0, fa_1, zed, bd_0, bd_2, zee, fd_1, zef, Nat.zero_add, st0_3', f6, f7] <;> exact finish_b _ _ _ _ _ _ _ (by simp only [zfa, ↓reduceIte]; rfl) rfl
  · have f6 : (((8 : Nat) : Int) == 6) = false := rfl
    have f7 : (((8 : Nat) : Int) == 7) = false := rfl
    simp only [zaa, zab, zac, zad, zae, zaf, zag, zah, zai, zaj, zak, zal, zam, zan, zao, zap, zaq, zar, zas, zat, zau, zav, zaw, zax, zay, zaz, zba, zbb, zbc, zbd, zbe, zbf, zbg, zbh, zbi, zbj, Nat.reduceBEq, Bool.or_self, Bool.or_false, Bool.or_true, Bool.and_true, Bool.and_false, Bool.true_and, Bool.false_and, Option.isNone_none, Option.isNone_some, Option.isSome_some, Option.isSome_none, zbk, zbl, zbm, zbn, zbo, zbp, zbq, zbr, zbs, zbt, zbu, zbv, zbw, zbx, zby, zbz, zca, zcb, zcc, zcd, zce, zcf, zcg, zch, zci, zcj, zck, zcl, zcm, zcn, zco, zcp, zcq, zcr, zcs, zct, zcu, zcv, zcw, zcx, zcy, zcz, zda, zdb, zdc, zdd, zde, zdf, Option.getD_some, Option.getD_none, zet, zeu, zev, zew, zex, zey, zez, zfa, Option.map_some, Option.map_none, Option.bind_some, List.map_cons, List.map_nil, List.cons_append, List.nil_append, ↓reduceIte, Nat.reduceEqDiff, Nat.reduceAdd, decide_true, decide_false, Bool.true_eq_false, Bool.false_eq_true, env0, List.getElem?_cons_zero, List.getElem?_cons_succ, zdg, zdh, zdi, zdj, zdk, zdl, zdm, zdn, ia22, ld31, zdo, zdp, zdq, zdr, zds, zdt, zdu, zdv, zdw, zdx, zdy, zdz, zea, zeb, zec, fa_0, fa_1, zed, bd_0, bd_2, zee, fd_1, zef, Nat.zero_add, st0_3', f6, f7, en]
    exact finish_b _ _ _ _ _ _ _ (by simp only [zfa, ↓reduceIte]; rfl) rfl
def lessG (g : Gk) (z : Int) : Gk := if z < 0 then .l else g
set_option maxHeartbeats 4000000 in
theorem rless_eq (n d : Nat) (hn : 100000 ≤ n) (g : Gk) (z : Int) (hlt : z.natAbs < B ^ 12) : evalFn Tryd.prog cfg0 n (d+4) 75 [.tree (canA g z)] = some (.tree (encL (lessG g z) (digs (lessN z))), [[]]) := by
  rw [evalFn_go _ Tryd.func75 (by unfold Tryd.f75; rfl) (by unfold Tryd.f75; decide) (Nat.le_of_ble_eq_true (by unfold Tryd.f75; rfl)) (by kernel_rfl)]
  by_cases hz : z < 0
  · have one1 : Num (.sl [.int .u32 1] 1 .tight) 1 := ⟨[1], ⟨_, rfl⟩, limbs_one (by decide), by decide, rfl⟩
    have c1 := fun D s => rcSub n d hn D s (num_can g z hlt) one1
    rw [encS_num _ _ (by omega)] at c1
    rw [lessG, if_pos hz, lessN, if_pos hz]
    simp only [zaa, zab, zac, zad, zae, zaf, zag, zah, zai, zaj, zak, zal, zam, zan, zao, zap, zaq, zar, zas, zat, zau, zav, zaw, zax, zay, zaz, zba, zbb, zbc, zbd, zbe, zbf, zbg, zbh, zbi, zbj, Nat.reduceBEq, Bool.or_self, Bool.or_false, Bool.or_true, Bool.and_true, Bool.and_false, Bool.true_and, Bool.false_and, Option.isNone_none, Option.isNone_some, Option.isSome_some, Option.isSome_none, zbk, zbl, zbm, zbn, zbo, zbp, zbq, zbr, zbs, zbt, zbu, zbv, zbw, zbx, zby, zbz, zca, zcb, zcc, zcd, zce, zcf, zcg, zch, zci, zcj, zck, zcl, zcm, zcn, zco, zcp, zcq, zcr, zcs, zct, zcu, zcv, zcw, zcx, zcy, zcz, zda, zdb, zdc, zdd, zde, zdf, Option.getD_some, Option.getD_none, zet, zeu, zev, zew, zex, zey, zez, zfa, Option.map_some, Option.map_none, Option.bind_some, List.map_cons, List.map_nil, List.cons_append, List.nil_append, ↓reduceIte, Nat.reduceEqDiff, Nat.reduceAdd, decide_true, decide_false, Bool.true_eq_false, Bool.false_eq_true, env0, List.getElem?_cons_zero, List.getElem?_cons_succ, zdg, zdh, zdi, zdj, zdk, zdl, zdm, zdn, ia22, ld31, zdo, zdp, zdq, zdr, zds, zdt, zdu, zdv, zdw, zdx, zdy, zdz, zea, zeb, zec, fa_0, fa_1, zed, bd_0, bd_2, zee, fd_1, zef, Nat.zero_add, st0_1, hz, opA_one, one22_int, c1]
    exact finish_F _ _ _ _ _ _ _ (by simp only [zfa, ↓reduceIte]) rfl
  · rw [lessG, if_neg hz, lessN, if_neg hz]
    simp only [zaa, zab, zac, zad, zae, zaf, zag, zah, zai, zaj, zak, zal, zam, zan, zao, zap, zaq, zar, zas, zat, zau, zav, zaw, zax, zay, zaz, zba, zbb, zbc, zbd, zbe, zbf, zbg, zbh, zbi, zbj, Nat.reduceBEq, Bool.or_self, Bool.or_false, Bool.or_true, Bool.and_true, Bool.and_false, Bool.true_and, Bool.false_and, Option.isNone_none, Option.isNone_some, Option.isSome_some, Option.isSome_none, zbk, zbl, zbm, zbn, zbo, zbp, zbq, zbr, zbs, zbt, zbu, zbv, zbw, zbx, zby, zbz, zca, zcb, zcc, zcd, zce, zcf, zcg, zch, zci, zcj, zck, zcl, zcm, zcn, zco, zcp, zcq, zcr, zcs, zct, zcu, zcv, zcw, zcx, zcy, zcz, zda, zdb, zdc, zdd, zde, zdf, Option.getD_some, Option.getD_none, zet, zeu, zev, zew, zex, zey, zez, zfa, Option.map_some, Option.map_none, Option.bind_some, List.map_cons, List.map_nil, List.cons_append, List.nil_append, ↓reduceIte, Nat.reduceEqDiff, Nat.reduceAdd, decide_true, decide_false, Bool.true_eq_false, Bool.false_eq_true, env0, List.getElem?_cons_zero, List.getElem?_cons_succ, zdg, zdh, zdi, zdj, zdk, zdl, zdm, zdn, ia22, ld31, zdo, zdp, zdq, zdr, zds, zdt, zdu, zdv, zdw, zdx, zdy, zdz, zea, zeb, zec, fa_0, fa_1, zed, bd_0, bd_2, zee, fd_1, zef, Nat.zero_add, st0_1, hz]
    exact finish_L _ _ _ _ _ _ _ _ (by simp only [zfa, ↓reduceIte]) rfl
set_option maxHeartbeats 4000000 in
theorem rbit_eq (n d : Nat) (g g' : Gk) (z : Int) (l : List Nat) (hl : Limbs l) (y : Nat) (hy : y ≤ 1000000) (hll : l.length ≤ 1000000) : evalFn Tryd.prog cfg0 n (d+1) 77 [.tree (canA g z), .tree (encL g' l), .tree (.int .i64 (y : Int))] = some (.tree (.bool (!((val l).testBit y == decide (z < 0)))), [[], [], []]) := by
  rw [evalFn_go _ Tryd.func77 (by unfold Tryd.f77; rfl) (by unfold Tryd.f77; decide) (Nat.le_of_ble_eq_true (by unfold Tryd.f77; rfl)) (by kernel_rfl)]
  have en := bool_neq 4 tk4
  have g1 := i_quo Tryd.prog 3 y 32 (by decide) (by omega)
  have g2 := i_rem Tryd.prog 3 y 32 (by decide)
  rw [show ((32 : Nat) : Int) = 32 from rfl] at g1 g2
  have p7 : (0 : Int) ≤ ((y / 32 : Nat) : Int) := by omega
  by_cases h : y / 32 < l.length
  · have p3 : ((y / 32 : Nat) : Int) < l.length := by omega
    have e10 : ∀ s, convA Tryd.prog 3 36 s (.int .i64 ((y % 32 : Nat) : Int)) = some (.int .u64 ((y % 32 : Nat) : Int)) := fun s => conv3_42 s _ (by omega)
    have hlw := getD_lt l hl (y / 32)
    have g3 := s_shr Tryd.prog 48 (l.getD (y / 32) 0) .u64 ((y % 32 : Nat) : Int) (by omega) (by omega)
    rw [Int.toNat_natCast] at g3
    have g4 := s_and1 Tryd.prog 48 (l.getD (y / 32) 0 / 2 ^ (y % 32)) (Nat.lt_of_le_of_lt (Nat.div_le_self _ _) hlw)
    rw [bit_limb l hl] at g4
    have ht : (((val l / 2 ^ y % 2 : Nat) : Int) == 1) = (val l).testBit y := by
      rw [Nat.testBit_eq_decide_div_mod_eq]
      have := Nat.mod_two_eq_zero_or_one (val l / 2 ^ y)
      rcases this with h | h <;> rw [h] <;> rfl
    simp only [zaa, zab, zac, zad, zae, zaf, zag, zah, zai, zaj, zak, zal, zam, zan, zao, zap, zaq, zar, zas, zat, zau, zav, zaw, zax, zay, zaz, zba, zbb, zbc, zbd, zbe, zbf, zbg, zbh, zbi, zbj, Nat.reduceBEq, Bool.or_self, Bool.or_false, Bool.or_true, Bool.and_true, Bool.and_false, Bool.true_and, Bool.false_and, Option.isNone_none, Option.isNone_some, Option.isSome_some, Option.isSome_none, zbk, zbl, zbm, zbn, zbo, zbp, zbq, zbr, zbs, zbt, zbu, zbv, zbw, zbx, zby, zbz, zca, zcb, zcc, zcd, zce, zcf, zcg, zch, zci, zcj, zck, zcl, zcm, zcn, zco, zcp, zcq, zcr, zcs, zct, zcu, zcv, zcw, zcx, zcy, zcz, zda, zdb, zdc, zdd, zde, zdf, Option.getD_some, Option.getD_none, zet, zeu, zev, zew, zex, zey, zez, zfa, Option.map_some, Option.map_none, Option.bind_some, List.map_cons, List.map_nil, List.cons_append, List.nil_append, ↓reduceIte, Nat.reduceEqDiff, Nat.reduceAdd, decide_true, decide_false, Bool.true_eq_false, Bool.false_eq_true, env0, List.getElem?_cons_zero, List.getElem?_cons_succ, zdg, zdh, zdi, zdj, zdk, zdl, zdm, zdn, ia22, ld31, zdo, zdp, zdq, zdr, zds, zdt, zdu, zdv, zdw, zdx, zdy, zdz, zea, zeb, zec, fa_0, fa_1, zed, bd_0, bd_2, zee, fd_1, zef, Nat.zero_add, st0_3', g1, g2, p3, p7, h, e10, Int.toNat_natCast, g3, bit_limb l hl, g4, ht, en]
    exact finish_b _ _ _ _ _ _ _ (by simp only [zfa, ↓reduceIte]) rfl
  · have p3 : ¬ ((y / 32 : Nat) : Int) < l.length := by omega
    have hb : (val l).testBit y = false := by
      rw [Nat.testBit_eq_decide_div_mod_eq, Nat.div_eq_of_lt (Nat.lt_of_lt_of_le (val_lt l hl) (B_le _ _ (by omega)))]
      rfl
    rw [hb]
    simp only [zaa, zab, zac, zad, zae, zaf, zag, zah, zai, zaj, zak, zal, zam, zan, zao, zap, zaq, zar, zas, zat, zau, zav, zaw, zax, zay, zaz, zba, zbb, zbc, zbd, zbe, zbf, zbg, zbh, zbi, zbj, Nat.reduceBEq, Bool.or_self, Bool.or_false, Bool.or_true, Bool.and_true, Bool.and_false, Bool.true_and, Bool.false_and, Option.isNone_none, Option.isNone_some, Option.isSome_some, Option.isSome_none, zbk, zbl, zbm, zbn, zbo, zbp, zbq, zbr, zbs, zbt, zbu, zbv, zbw, zbx, zby, zbz, zca, zcb, zcc, zcd, zce, zcf, zcg, zch, zci, zcj, zck, zcl, zcm, zcn, zco, zcp, zcq, zcr, zcs, zct, zcu, zcv, zcw, zcx, zcy, zcz, zda, zdb, zdc, zdd, zde, zdf, Option.getD_some, Option.getD_none, zet, zeu, zev, zew, zex, zey, zez, zfa, Option.map_some, Option.map_none, Option.bind_some, List.map_cons, List.map_nil, List.cons_append, List.nil_append, ↓reduceIte, Nat.reduceEqDiff, Nat.reduceAdd, decide_true, decide_false, Bool.true_eq_false, Bool.false_eq_true, env0, List.getElem?_cons_zero, List.getElem?_cons_succ, zdg, zdh, zdi, zdj, zdk, zdl, zdm, zdn, ia22, ld31, zdo, zdp, zdq, zdr, zds, zdt, zdu, zdv, zdw, zdx, zdy, zdz, zea, zeb, zec, fa_0, fa_1, zed, bd_0, bd_2, zee, fd_1, zef, Nat.zero_add, st0_3', g1, g2, p3, p7, en]
    exact finish_b _ _ _ _ _ _ _ (by simp only [zfa, ↓reduceIte]) rfl
end Go.Ab

/- The reference's bits: the walk. Conditions: limbs in range. -/
namespace Go.Ab
open Go.Proofs
set_option maxRecDepth 100000
set_option linter.unusedSimpArgs false

theorem rmade_own (n d : Nat) (hn : 100000 ≤ n) (D : Nat) (s : St) (b : Bool) (p t : Nat) (o : List Nat) (len : Nat) (hp : s p = ⟨t, .buf (encC o)⟩) (hl : o.length = len) (hk : len ≤ 1000) (hL : Limbs o) : callA cfg0 (evalFn Tryd.prog cfg0 n (d+2)) D s 47 [.bool b, .own p t 0 len 1] = some (madeF (sgn b (val o)), upd s p ⟨t, .frz (encC o)⟩) := by
  subst hl
  have this := rmade_eq n d b .l o hL (by omega) (by omega)
  rw [show encL .l o = .sl (encC o) o.length .loose from rfl] at this
  have hf : flatR (.tree (madeF (sgn b (val o)))) = false := rfl
  have ht : (encC o).take o.length = encC o := List.take_of_length_le (by rw [encC_len]; exact Nat.le_refl _)
  have hfz : frzAt s p = upd s p ⟨t, .frz (encC o)⟩ := by unfold frzAt; rw [hp]
  simp [callA, argsA, argA, cellsAt, hp, ht, encC_len, givesL, lendsL, givesOf, lendsOf, this, hf, backA, resA, hfz, show ∀ f j, cfg0.lin f j = false from fun _ _ => rfl]
theorem radd_own1 (n d : Nat) (hn : 100000 ≤ n) (D : Nat) (s : St) (p t : Nat) (o : List Nat) (len : Nat) (hp : s p = ⟨t, .buf (encC o)⟩) (hl : o.length = len) (hk : len ≤ 1000) (hL : Limbs o) : callA cfg0 (evalFn Tryd.prog cfg0 n (d+2)) D s 60 [.own p t 0 len 1, .sl [.int .u32 1] 1 .tight] = some (encF (val o + 1), upd s p ⟨t, .frz (encC o)⟩) := by
  subst hl
  have this := radd_eq n d .l .t o [1] hL (limbs_one (by decide)) (by omega) (by simp; omega) (by omega) (by simp)
  rw [show encL .l o = .sl (encC o) o.length .loose from rfl, show encL .t [1] = .sl [.int .u32 1] 1 .tight from rfl, show val [1] = 1 from rfl] at this
  have hf : flatR (.tree (encF (val o + 1))) = false := rfl
  have ht : (encC o).take o.length = encC o := List.take_of_length_le (by rw [encC_len]; exact Nat.le_refl _)
  have hfz : frzAt s p = upd s p ⟨t, .frz (encC o)⟩ := by unfold frzAt; rw [hp]
  simp [callA, argsA, argA, cellsAt, hp, ht, encC_len, givesL, lendsL, givesOf, lendsOf, this, hf, backA, resA, hfz, show ∀ f j, cfg0.lin f j = false from fun _ _ => rfl]
theorem less_abs (z : Int) : z.natAbs ≤ lessN z + 1 := by unfold lessN; split <;> omega
theorem less_le (z : Int) : lessN z ≤ z.natAbs := by unfold lessN; split <;> omega
theorem abs_pow (z : Int) (L : Nat) (h : (digs (lessN z)).length < L) : z.natAbs < 2 ^ (32 * L) := by
  have h1 := val_lt (digs (lessN z)) (limbs_digs _)
  rw [val_digs, B_pow] at h1
  have h2 : 2 ^ (32 * (digs (lessN z)).length) < 2 ^ (32 * L) := Nat.pow_lt_pow_right (by decide) (by omega)
  have h3 := less_abs z
  omega
theorem own_len {o : List Nat} {L : Nat} (h : o.length = L) (hL : Limbs o) : val o < 2 ^ (32 * L) := by rw [← h, ← B_pow]; exact val_lt o hL
set_option maxHeartbeats 16000000 in
theorem rlog_eq (n d : Nat) (hn : 100000 ≤ n) (op : Nat) (hop : op = 6 ∨ op = 7 ∨ op = 8) (g g' : Gk) (z z' : Int) (hlt : z.natAbs < B ^ 12) (hlt' : z'.natAbs < B ^ 12) : evalFn Tryd.prog cfg0 n (d+5) 52 [.tree (.int .i64 (op : Int)), .tree (canA g z), .tree (canA g' z')] = some (.tree (madeF (logZ op z z')), [[], [], []]) := by
  rw [evalFn_go _ Tryd.func52 (by unfold Tryd.f52; rfl) (by unfold Tryd.f52; decide) (Nat.le_of_ble_eq_true (by unfold Tryd.f52; rfl)) (by kernel_rfl)]
  have b1 := callQ_trees (f := 75) (vs := [canA g z]) rfl (rless_eq n d hn g z hlt)
  have b2 := callQ_trees (f := 75) (vs := [canA g' z']) rfl (rless_eq n d hn g' z' hlt')
  have f0 := fun (p q : Bool) D s => callA_trees (cfg := cfg0) (d := D) (s := s) (f := 76) (vs := [.int .i64 (op : Int), .bool p, .bool q]) rfl (func3_eq n (d + 3) op hop p q)
  have f1 := fun (p q : Bool) => callQ_trees (f := 76) (vs := [.int .i64 (op : Int), .bool p, .bool q]) rfl (func3_eq n (d + 3) op hop p q)
  have hx : (digs (lessN z)).length ≤ 12 := digs_len _ 12 (Nat.lt_of_le_of_lt (less_le z) hlt)
  have hy : (digs (lessN z')).length ≤ 12 := digs_len _ 12 (Nat.lt_of_le_of_lt (less_le z') hlt')
  have t1 := fun (y : Nat) (hy : y ≤ 1000000) => callQ_trees (f := 77) (vs := [canA g z, encL (lessG g z) (digs (lessN z)), .int .i64 (y : Int)]) (by cases h : lessG g z <;> rfl) (rbit_eq n (d + 3) g (lessG g z) z (digs (lessN z)) (limbs_digs _) y hy (by omega))
  have t2 := fun (y : Nat) (hy : y ≤ 1000000) => callQ_trees (f := 77) (vs := [canA g' z', encL (lessG g' z') (digs (lessN z')), .int .i64 (y : Int)]) (by cases h : lessG g' z' <;> rfl) (rbit_eq n (d + 3) g' (lessG g' z') z' (digs (lessN z')) (limbs_digs _) y hy (by omega))
  simp only [val_digs] at t1 t2
  have mx := max_eq (digs (lessN z)).length (digs (lessN z')).length
  obtain ⟨m, hm⟩ : ∃ m, max (digs (lessN z)).length (digs (lessN z')).length = m := ⟨_, rfl⟩
  rw [hm] at mx
  have hm12 : m ≤ 12 := by omega
  have a1 := i_add Tryd.prog 3 (m : Int) 1 (by omega) (by omega)
  obtain ⟨L, hL⟩ : ∃ L, L = m + 1 := ⟨_, rfl⟩
  rw [show (m : Int) + 1 = (L : Int) by omega] at a1
  have a2 := i_mul Tryd.prog 3 32 (L : Int) (by omega) (by omega)
  rw [show (32 : Int) * (L : Int) = ((32 * L : Nat) : Int) by omega] at a2
  have a3 := i_quo Tryd.prog 3 (32 * L) 32 (by decide) (by omega)
  rw [Nat.mul_div_cancel_left L (by decide), show ((32 : Nat) : Int) = 32 from rfl] at a3
  have mk := fun s => make22 33 s (L : Int) (by omega) (by omega)
  simp only [Int.toNat_natCast] at mk
  have hza := abs_pow z L (by omega)
  have hzb := abs_pow z' L (by omega)
  have jn : f3 op (decide (z < 0)) (decide (z' < 0)) = joinZ op z z' := rfl
  simp only [zaa, zab, zac, zad, zae, zaf, zag, zah, zai, zaj, zak, zal, zam, zan, zao, zap, zaq, zar, zas, zat, zau, zav, zaw, zax, zay, zaz, zba, zbb, zbc, zbd, zbe, zbf, zbg, zbh, zbi, zbj, Nat.reduceBEq, Bool.or_self, Bool.or_false, Bool.or_true, Bool.and_true, Bool.and_false, Bool.true_and, Bool.false_and, Option.isNone_none, Option.isNone_some, Option.isSome_some, Option.isSome_none, zbk, zbl, zbm, zbn, zbo, zbp, zbq, zbr, zbs, zbt, zbu, zbv, zbw, zbx, zby, zbz, zca, zcb, zcc, zcd, zce, zcf, zcg, zch, zci, zcj, zck, zcl, zcm, zcn, zco, zcp, zcq, zcr, zcs, zct, zcu, zcv, zcw, zcx, zcy, zcz, zda, zdb, zdc, zdd, zde, zdf, Option.getD_some, Option.getD_none, zet, zeu, zev, zew, zex, zey, zez, zfa, Option.map_some, Option.map_none, Option.bind_some, List.map_cons, List.map_nil, List.cons_append, List.nil_append, ↓reduceIte, Nat.reduceEqDiff, Nat.reduceAdd, decide_true, decide_false, Bool.true_eq_false, Bool.false_eq_true, env0, List.getElem?_cons_zero, List.getElem?_cons_succ, zdg, zdh, zdi, zdj, zdk, zdl, zdm, zdn, ia22, ld31, zdo, zdp, zdq, zdr, zds, zdt, zdu, zdv, zdw, zdx, zdy, zdz, zea, zeb, zec, fa_0, fa_1, zed, bd_0, bd_2, zee, fd_1, zef, Nat.zero_add, st0_3', b1, b2, f0, jn, mx, a1, a2, a3, mk, den_loop]
  have hlog := tgt_val (op := op) hza hzb
  rw [← logZ_any (32 * L) op hza hzb hlt hlt'] at hlog
  have hT := tgt_lt (op := op) hza hzb
  have hbit := fun y hy => tgt_bit (op := op) (y := y) hza hzb hy
  rw [← hlog]
  clear b1 b2 mx a1 a2 a3 mk hlog
  refine loop_ends (X := Nat × List Nat) (fun x env s => env 0 = .int .i64 (op : Int) ∧ env 4 = .ptr 4 1 0 ∧ env 5 = .ptr 5 1 0 ∧ env 6 = .ptr 6 1 0 ∧ env 8 = encL (lessG g z) (digs (lessN z)) ∧ env 9 = encL (lessG g' z') (digs (lessN z')) ∧ env 10 = .bool (joinZ op z z') ∧ env 11 = .int .i64 ((32 * L : Nat) : Int) ∧ env 12 = .own 33 1 0 L 1 ∧ env 13 = .int .i64 (x.1 : Int) ∧ s 4 = ⟨1, .buf [.bool (decide (z < 0)), encL g (digs z.natAbs)]⟩ ∧ s 5 = ⟨1, .buf [.bool (decide (z' < 0)), encL g' (digs z'.natAbs)]⟩ ∧ s 6 = ⟨1, .buf [.bool false, .sl [] 0 .nil]⟩ ∧ s 33 = ⟨1, .buf (encC x.2)⟩ ∧ x.1 ≤ 32 * L ∧ x.2.length = L ∧ Limbs x.2 ∧ val x.2 = tgt (32 * L) op z z' % 2 ^ x.1) (fun x => 32 * L - x.1) (fun _ => (.tree (madeF (sgn (joinZ op z z') (if joinZ op z z' = true then tgt (32 * L) op z z' + 1 else tgt (32 * L) op z z'))), [[], [], []])) ?_ n (0, List.replicate L 0) _ _ (by simp only; omega) ⟨by simp only [zfa, ↓reduceIte, Nat.reduceEqDiff]; rfl, by simp only [zfa, ↓reduceIte, Nat.reduceEqDiff], by simp only [zfa, ↓reduceIte, Nat.reduceEqDiff], by simp only [zfa, ↓reduceIte, Nat.reduceEqDiff], by simp only [zfa, ↓reduceIte, Nat.reduceEqDiff], by simp only [zfa, ↓reduceIte, Nat.reduceEqDiff], by simp only [zfa, ↓reduceIte, Nat.reduceEqDiff], by simp only [zfa, ↓reduceIte, Nat.reduceEqDiff], by simp only [zfa, ↓reduceIte, Nat.reduceEqDiff], by simp only [zfa, ↓reduceIte, Nat.reduceEqDiff]; rfl, by simp only [zfa, ↓reduceIte, Nat.reduceEqDiff], by simp only [zfa, ↓reduceIte, Nat.reduceEqDiff], by simp only [zfa, ↓reduceIte, Nat.reduceEqDiff], by simp only [zfa, ↓reduceIte, Nat.reduceEqDiff], Nat.zero_le _, by simp, ?_, by rw [val_rep, Nat.pow_zero, Nat.mod_one]⟩
  rotate_left
  · intro x hx; rw [List.eq_of_mem_replicate hx]; decide
  intro k ⟨i, o⟩ hxk ih env s ⟨e0, e4, e5, e6, e8, e9, e10, e11, e12, e13, j4, j5, j6, j33, hi, hol, hoL, hv⟩
  simp only at e13 j33 hi hol hoL hv hxk
  by_cases hp : i = 32 * L
  · subst hp
    have q1 : ¬ (((32 * L : Nat) : Int) < ((32 * L : Nat) : Int)) := by omega
    rw [Nat.mod_eq_of_lt hT] at hv
    clear ih t1 t2 f1 hbit
    cases hj : joinZ op z z' with
    | false =>
      rw [hj] at e10
      have c1 := fun D => rmade_own n (d + 2) hn D s false 33 1 o L j33 hol (by omega) hoL
      rw [hv] at c1
      simp only [zaa, zab, zac, zad, zae, zaf, zag, zah, zai, zaj, zak, zal, zam, zan, zao, zap, zaq, zar, zas, zat, zau, zav, zaw, zax, zay, zaz, zba, zbb, zbc, zbd, zbe, zbf, zbg, zbh, zbi, zbj, Nat.reduceBEq, Bool.or_self, Bool.or_false, Bool.or_true, Bool.and_true, Bool.and_false, Bool.true_and, Bool.false_and, Option.isNone_none, Option.isNone_some, Option.isSome_some, Option.isSome_none, zbk, zbl, zbm, zbn, zbo, zbp, zbq, zbr, zbs, zbt, zbu, zbv, zbw, zbx, zby, zbz, zca, zcb, zcc, zcd, zce, zcf, zcg, zch, zci, zcj, zck, zcl, zcm, zcn, zco, zcp, zcq, zcr, zcs, zct, zcu, zcv, zcw, zcx, zcy, zcz, zda, zdb, zdc, zdd, zde, zdf, Option.getD_some, Option.getD_none, zet, zeu, zev, zew, zex, zey, zez, zfa, Option.map_some, Option.map_none, Option.bind_some, List.map_cons, List.map_nil, List.cons_append, List.nil_append, ↓reduceIte, Nat.reduceEqDiff, Nat.reduceAdd, decide_true, decide_false, Bool.true_eq_false, Bool.false_eq_true, env0, List.getElem?_cons_zero, List.getElem?_cons_succ, zdg, zdh, zdi, zdj, zdk, zdl, zdm, zdn, ia22, ld31, zdo, zdp, zdq, zdr, zds, zdt, zdu, zdv, zdw, zdx, zdy, zdz, zea, zeb, zec, fa_0, fa_1, zed, bd_0, bd_2, zee, fd_1, zef, Nat.zero_add, e0, e4, e5, e6, e8, e9, e10, e11, e12, e13, j4, j5, j6, q1, c1, madeF_eq, ext_0, ext_1, zeb]
      exact finish_ct _ _ 6 6 1 _ _ _ _ _ _ _ (by simp only [zfa, ↓reduceIte, Nat.reduceEqDiff, e6]) (by simp only [zfa, ↓reduceIte, Nat.reduceEqDiff]) (by simp only [zfa, ↓reduceIte, Nat.reduceEqDiff]) rfl
    | true =>
      rw [hj] at e10
      have c1 := fun D => radd_own1 n (d + 2) hn D s 33 1 o L j33 hol (by omega) hoL
      rw [hv] at c1
      have c2 := fun D s => cRmade n (d + 2) hn D s (num_F (tgt (32 * L) op z z' + 1) (L + 1) (by omega) (by
        have h1 := hT
        have h2 : 2 ^ (32 * L) < B ^ (L + 1) := lt_B _ _ (by omega)
        omega)) true
      simp only [zaa, zab, zac, zad, zae, zaf, zag, zah, zai, zaj, zak, zal, zam, zan, zao, zap, zaq, zar, zas, zat, zau, zav, zaw, zax, zay, zaz, zba, zbb, zbc, zbd, zbe, zbf, zbg, zbh, zbi, zbj, Nat.reduceBEq, Bool.or_self, Bool.or_false, Bool.or_true, Bool.and_true, Bool.and_false, Bool.true_and, Bool.false_and, Option.isNone_none, Option.isNone_some, Option.isSome_some, Option.isSome_none, zbk, zbl, zbm, zbn, zbo, zbp, zbq, zbr, zbs, zbt, zbu, zbv, zbw, zbx, zby, zbz, zca, zcb, zcc, zcd, zce, zcf, zcg, zch, zci, zcj, zck, zcl, zcm, zcn, zco, zcp, zcq, zcr, zcs, zct, zcu, zcv, zcw, zcx, zcy, zcz, zda, zdb, zdc, zdd, zde, zdf, Option.getD_some, Option.getD_none, zet, zeu, zev, zew, zex, zey, zez, zfa, Option.map_some, Option.map_none, Option.bind_some, List.map_cons, List.map_nil, List.cons_append, List.nil_append, ↓reduceIte, Nat.reduceEqDiff, Nat.reduceAdd, decide_true, decide_false, Bool.true_eq_false, Bool.false_eq_true, env0, List.getElem?_cons_zero, List.getElem?_cons_succ, zdg, zdh, zdi, zdj, zdk, zdl, zdm, zdn, ia22, ld31, zdo, zdp, zdq, zdr, zds, zdt, zdu, zdv, zdw, zdx, zdy, zdz, zea, zeb, zec, fa_0, fa_1, zed, bd_0, bd_2, zee, fd_1, zef, Nat.zero_add, e0, e4, e5, e6, e8, e9, e10, e11, e12, e13, j4, j5, j6, q1, opA_one, one22_int, c1, c2, madeF_eq, ext_0, ext_1, zeb]
      exact finish_ct _ _ 6 6 1 _ _ _ _ _ _ _ (by simp only [zfa, ↓reduceIte, Nat.reduceEqDiff, e6]) (by simp only [zfa, ↓reduceIte, Nat.reduceEqDiff]) (by simp only [zfa, ↓reduceIte, Nat.reduceEqDiff]) rfl
  · have hi' : i < 32 * L := by omega
    have q1 : (i : Int) < ((32 * L : Nat) : Int) := by omega
    have t1 := t1 i (by omega)
    have t2 := t2 i (by omega)
    have en := bool_neq 4 tk4
    have hb := hbit i hi'
    have nx := fun o' env s h1 h => ih (i + 1, o') env s h1 rfl h
    have hn2 := next_bit (tgt (32 * L) op z z') i
    rw [hb, ← hv] at hn2
    have g0 := i_add Tryd.prog 3 (i : Int) 1 (by omega) (by omega)
    clear ih hbit hb f0 jn
    change callQ _ _ _ = some (.bool (bitZ z i)) at t1
    change callQ _ _ _ = some (.bool (bitZ z' i)) at t2
    have f1 := f1 (bitZ z i) (bitZ z' i)
    by_cases hq : (f3 op (bitZ z i) (bitZ z' i) == joinZ op z z') = true
    · rw [hq] at hn2
      simp only [Bool.not_true, Bool.false_eq_true, if_false, Nat.add_zero] at hn2
      simp only [zaa, zab, zac, zad, zae, zaf, zag, zah, zai, zaj, zak, zal, zam, zan, zao, zap, zaq, zar, zas, zat, zau, zav, zaw, zax, zay, zaz, zba, zbb, zbc, zbd, zbe, zbf, zbg, zbh, zbi, zbj, Nat.reduceBEq, Bool.or_self, Bool.or_false, Bool.or_true, Bool.and_true, Bool.and_false, Bool.true_and, Bool.false_and, Option.isNone_none, Option.isNone_some, Option.isSome_some, Option.isSome_none, zbk, zbl, zbm, zbn, zbo, zbp, zbq, zbr, zbs, zbt, zbu, zbv, zbw, zbx, zby, zbz, zca, zcb, zcc, zcd, zce, zcf, zcg, zch, zci, zcj, zck, zcl, zcm, zcn, zco, zcp, zcq, zcr, zcs, zct, zcu, zcv, zcw, zcx, zcy, zcz, zda, zdb, zdc, zdd, zde, zdf, Option.getD_some, Option.getD_none, zet, zeu, zev, zew, zex, zey, zez, zfa, Option.map_some, Option.map_none, Option.bind_some, List.map_cons, List.map_nil, List.cons_append, List.nil_append, ↓reduceIte, Nat.reduceEqDiff, Nat.reduceAdd, decide_true, decide_false, Bool.true_eq_false, Bool.false_eq_true, env0, List.getElem?_cons_zero, List.getElem?_cons_succ, zdg, zdh, zdi, zdj, zdk, zdl, zdm, zdn, ia22, ld31, zdo, zdp, zdq, zdr, zds, zdt, zdu, zdv, zdw, zdx, zdy, zdz, zea, zeb, zec, fa_0, fa_1, zed, bd_0, bd_2, zee, fd_1, zef, Nat.zero_add, e0, e4, e5, e6, e8, e9, e10, e11, e12, e13, j4, j5, j6, q1, t1, t2, f1, en, hq, Bool.not_true, g0]
      refine nx o _ _ (by simp only; omega) ⟨?_, ?_, ?_, ?_, ?_, ?_, ?_, ?_, ?_, ?_, j4, j5, j6, j33, ?_, hol, hoL, hn2.symm⟩
      · simp only [zfa, ↓reduceIte, Nat.reduceEqDiff, e0]
      · simp only [zfa, ↓reduceIte, Nat.reduceEqDiff, e4]
      · simp only [zfa, ↓reduceIte, Nat.reduceEqDiff, e5]
      · simp only [zfa, ↓reduceIte, Nat.reduceEqDiff, e6]
      · simp only [zfa, ↓reduceIte, Nat.reduceEqDiff, e8]
      · simp only [zfa, ↓reduceIte, Nat.reduceEqDiff, e9]
      · simp only [zfa, ↓reduceIte, Nat.reduceEqDiff, e10]
      · simp only [zfa, ↓reduceIte, Nat.reduceEqDiff, e11]
      · simp only [zfa, ↓reduceIte, Nat.reduceEqDiff, e12]
      · simp only [zfa, ↓reduceIte, Nat.reduceEqDiff]; rfl
      · simp only; omega
    · rw [Bool.not_eq_true] at hq
      rw [hq] at hn2
      simp only [Bool.not_false, if_true] at hn2
      have p3 : ((i / 32 : Nat) : Int) < L := by omega
      have p4 : i / 32 < L := by omega
      have p7 : (0 : Int) ≤ ((i / 32 : Nat) : Int) := by omega
      have g1 := i_quo Tryd.prog 3 i 32 (by decide) (by omega)
      have g2 := i_rem Tryd.prog 3 i 32 (by decide)
      rw [show ((32 : Nat) : Int) = 32 from rfl] at g1 g2
      have e14 : ∀ s, convA Tryd.prog 3 36 s (.int .i64 ((i % 32 : Nat) : Int)) = some (.int .u64 ((i % 32 : Nat) : Int)) := fun s => conv3_42 s _ (by omega)
      have u1 := ia_own s 33 1 _ L .i64 ((i / 32 : Nat) : Int) j33 p7 p3
      rw [Int.toNat_natCast] at u1
      have u2 := ld_own s 33 1 o (i / 32) j33 (by omega)
      have u3 := s_shl1 Tryd.prog 48 .u64 (i % 32) (Nat.mod_lt _ (by decide))
      have hlow : val o < 2 ^ i := by rw [hv]; exact Nat.mod_lt _ (Nat.two_pow_pos i)
      have hob := or_low o hoL i hlow
      have u4 := s_or Tryd.prog 48 (o.getD (i / 32) 0) (2 ^ (i % 32)) (getD_lt o hoL _) (show 2 ^ (i % 32) < 2 ^ 32 from Nat.pow_lt_pow_right (by decide) (Nat.mod_lt _ (by decide)))
      have u5 := st31 s 33 1 _ (i / 32) (o.getD (i / 32) 0 ||| 2 ^ (i % 32)) j33 (by omega)
      have hset := set_low o hoL i (by omega) hlow
      simp only [zaa, zab, zac, zad, zae, zaf, zag, zah, zai, zaj, zak, zal, zam, zan, zao, zap, zaq, zar, zas, zat, zau, zav, zaw, zax, zay, zaz, zba, zbb, zbc, zbd, zbe, zbf, zbg, zbh, zbi, zbj, Nat.reduceBEq, Bool.or_self, Bool.or_false, Bool.or_true, Bool.and_true, Bool.and_false, Bool.true_and, Bool.false_and, Option.isNone_none, Option.isNone_some, Option.isSome_some, Option.isSome_none, zbk, zbl, zbm, zbn, zbo, zbp, zbq, zbr, zbs, zbt, zbu, zbv, zbw, zbx, zby, zbz, zca, zcb, zcc, zcd, zce, zcf, zcg, zch, zci, zcj, zck, zcl, zcm, zcn, zco, zcp, zcq, zcr, zcs, zct, zcu, zcv, zcw, zcx, zcy, zcz, zda, zdb, zdc, zdd, zde, zdf, Option.getD_some, Option.getD_none, zet, zeu, zev, zew, zex, zey, zez, zfa, Option.map_some, Option.map_none, Option.bind_some, List.map_cons, List.map_nil, List.cons_append, List.nil_append, ↓reduceIte, Nat.reduceEqDiff, Nat.reduceAdd, decide_true, decide_false, Bool.true_eq_false, Bool.false_eq_true, env0, List.getElem?_cons_zero, List.getElem?_cons_succ, zdg, zdh, zdi, zdj, zdk, zdl, zdm, zdn, ia22, ld31, zdo, zdp, zdq, zdr, zds, zdt, zdu, zdv, zdw, zdx, zdy, zdz, zea, zeb, zec, fa_0, fa_1, zed, bd_0, bd_2, zee, fd_1, zef, Nat.zero_add, e0, e4, e5, e6, e8, e9, e10, e11, e12, e13, j4, j5, j6, q1, t1, t2, f1, en, hq, Bool.not_false, g0, g1, g2, e14, u1, u2, u3, u4, u5]
      refine nx (o.set (i / 32) (o.getD (i / 32) 0 ||| 2 ^ (i % 32))) _ _ (by simp only; omega) ⟨?_, ?_, ?_, ?_, ?_, ?_, ?_, ?_, ?_, ?_, ?_, ?_, ?_, ?_, ?_, ?_, limbs_set _ hoL _ _ hob.2, ?_⟩
      · simp only [zfa, ↓reduceIte, Nat.reduceEqDiff, e0]
      · simp only [zfa, ↓reduceIte, Nat.reduceEqDiff, e4]
      · simp only [zfa, ↓reduceIte, Nat.reduceEqDiff, e5]
      · simp only [zfa, ↓reduceIte, Nat.reduceEqDiff, e6]
      · simp only [zfa, ↓reduceIte, Nat.reduceEqDiff, e8]
      · simp only [zfa, ↓reduceIte, Nat.reduceEqDiff, e9]
      · simp only [zfa, ↓reduceIte, Nat.reduceEqDiff, e10]
      · simp only [zfa, ↓reduceIte, Nat.reduceEqDiff, e11]
      · simp only [zfa, ↓reduceIte, Nat.reduceEqDiff, e12]
      · simp only [zfa, ↓reduceIte, Nat.reduceEqDiff]; rfl
      · simp only [zfa, ↓reduceIte, Nat.reduceEqDiff, j4]
      · simp only [zfa, ↓reduceIte, Nat.reduceEqDiff, j5]
      · simp only [zfa, ↓reduceIte, Nat.reduceEqDiff, j6]
      · rw [upd_self]
      · simp only; omega
      · simp only [List.length_set]; exact hol
      · simp only; omega
end Go.Ab

/- The reference's shifts, and how far. Conditions: limbs in range. -/
namespace Go.Ab
open Go.Proofs
set_option maxRecDepth 100000
set_option linter.unusedSimpArgs false

theorem min_Z (a b : Int) : foldA min2A (.int .i64 a) [.int .i64 b] = some (.int .i64 (if b < a then b else a)) := by
  simp only [foldA, min2A, Option.bind_some]
theorem max_Z (a b : Int) : foldA max2A (.int .i64 a) [.int .i64 b] = some (.int .i64 (if a < b then b else a)) := by
  simp only [foldA, max2A, Option.bind_some]
/-- A number of bits, cut. -/
def clZ (z : Int) : Int := if z < -10001 then -10001 else if 10001 < z then 10001 else z
theorem clZ_eq (z : Int) : (if (10001 : Int) < (if z < -10001 then -10001 else z) then 10001 else (if z < -10001 then -10001 else z)) = clZ z := by
  unfold clZ
  (repeat' split) <;> omega
set_option maxHeartbeats 4000000 in
theorem far_eq (n d : Nat) (hn : 100000 ≤ n) (g : Gk) (z : Int) (hlt : z.natAbs < B ^ 12) : evalFn Tryd.prog cfg0 n (d+4) 53 [.tree (canA g z)] = some (.tree (.int .i64 (clZ z)), [[]]) := by
  rw [evalFn_go _ Tryd.func53 (by unfold Tryd.f53; rfl) (by unfold Tryd.f53; decide) (Nat.le_of_ble_eq_true (by unfold Tryd.f53; rfl)) (by kernel_rfl)]
  have c1 := fun D s => cRint n d hn (isN_can g z hlt) D s
  unfold intZ at c1
  by_cases hi : isI64 z = true
  · rw [if_pos hi] at c1
    have m1 := max_Z z (-10001)
    have m2 := min_Z (if z < -10001 then -10001 else z) 10001
    rw [clZ_eq] at m2
    simp only [zaa, zab, zac, zad, zae, zaf, zag, zah, zai, zaj, zak, zal, zam, zan, zao, zap, zaq, zar, zas, zat, zau, zav, zaw, zax, zay, zaz, zba, zbb, zbc, zbd, zbe, zbf, zbg, zbh, zbi, zbj, Nat.reduceBEq, Bool.or_self, Bool.or_false, Bool.or_true, Bool.and_true, Bool.and_false, Bool.true_and, Bool.false_and, Option.isNone_none, Option.isNone_some, Option.isSome_some, Option.isSome_none, zbk, zbl, zbm, zbn, zbo, zbp, zbq, zbr, zbs, zbt, zbu, zbv, zbw, zbx, zby, zbz, zca, zcb, zcc, zcd, zce, zcf, zcg, zch, zci, zcj, zck, zcl, zcm, zcn, zco, zcp, zcq, zcr, zcs, zct, zcu, zcv, zcw, zcx, zcy, zcz, zda, zdb, zdc, zdd, zde, zdf, Option.getD_some, Option.getD_none, zet, zeu, zev, zew, zex, zey, zez, zfa, Option.map_some, Option.map_none, Option.bind_some, List.map_cons, List.map_nil, List.cons_append, List.nil_append, ↓reduceIte, Nat.reduceEqDiff, Nat.reduceAdd, decide_true, decide_false, Bool.true_eq_false, Bool.false_eq_true, env0, List.getElem?_cons_zero, List.getElem?_cons_succ, zdg, zdh, zdi, zdj, zdk, zdl, zdm, zdn, ia22, ld31, zdo, zdp, zdq, zdr, zds, zdt, zdu, zdv, zdw, zdx, zdy, zdz, zea, zeb, zec, fa_0, fa_1, zed, bd_0, bd_2, zee, fd_1, zef, Nat.zero_add, st0_1, c1, m1, m2]
    exact finish_i _ _ _ _ _ _ _ (by simp only [zfa, ↓reduceIte]) rfl
  · rw [if_neg hi] at c1
    have hz : z < -9223372036854775808 ∨ 9223372036854775808 ≤ z := by
      unfold isI64 at hi
      rw [Bool.and_eq_true, decide_eq_true_eq, decide_eq_true_eq] at hi
      omega
    by_cases h0 : z < 0
    · simp only [canA, encA, h0, decide_true] at c1
      have hc : clZ z = -10001 := by unfold clZ; rw [if_pos (by omega)]
      rw [hc]
      simp only [zaa, zab, zac, zad, zae, zaf, zag, zah, zai, zaj, zak, zal, zam, zan, zao, zap, zaq, zar, zas, zat, zau, zav, zaw, zax, zay, zaz, zba, zbb, zbc, zbd, zbe, zbf, zbg, zbh, zbi, zbj, Nat.reduceBEq, Bool.or_self, Bool.or_false, Bool.or_true, Bool.and_true, Bool.and_false, Bool.true_and, Bool.false_and, Option.isNone_none, Option.isNone_some, Option.isSome_some, Option.isSome_none, zbk, zbl, zbm, zbn, zbo, zbp, zbq, zbr, zbs, zbt, zbu, zbv, zbw, zbx, zby, zbz, zca, zcb, zcc, zcd, zce, zcf, zcg, zch, zci, zcj, zck, zcl, zcm, zcn, zco, zcp, zcq, zcr, zcs, zct, zcu, zcv, zcw, zcx, zcy, zcz, zda, zdb, zdc, zdd, zde, zdf, Option.getD_some, Option.getD_none, zet, zeu, zev, zew, zex, zey, zez, zfa, Option.map_some, Option.map_none, Option.bind_some, List.map_cons, List.map_nil, List.cons_append, List.nil_append, ↓reduceIte, Nat.reduceEqDiff, Nat.reduceAdd, decide_true, decide_false, Bool.true_eq_false, Bool.false_eq_true, env0, List.getElem?_cons_zero, List.getElem?_cons_succ, zdg, zdh, zdi, zdj, zdk, zdl, zdm, zdn, ia22, ld31, zdo, zdp, zdq, zdr, zds, zdt, zdu, zdv, zdw, zdx, zdy, zdz, zea, zeb, zec, fa_0, fa_1, zed, bd_0, bd_2, zee, fd_1, zef, Nat.zero_add, st0_1, c1, h0]
      exact finish_i _ _ _ _ _ _ _ (by simp only [zfa, ↓reduceIte]) rfl
    · simp only [canA, encA, h0, decide_false] at c1
      have hc : clZ z = 10001 := by unfold clZ; rw [if_neg (by omega), if_pos (by omega)]
      rw [hc]
      simp only [zaa, zab, zac, zad, zae, zaf, zag, zah, zai, zaj, zak, zal, zam, zan, zao, zap, zaq, zar, zas, zat, zau, zav, zaw, zax, zay, zaz, zba, zbb, zbc, zbd, zbe, zbf, zbg, zbh, zbi, zbj, Nat.reduceBEq, Bool.or_self, Bool.or_false, Bool.or_true, Bool.and_true, Bool.and_false, Bool.true_and, Bool.false_and, Option.isNone_none, Option.isNone_some, Option.isSome_some, Option.isSome_none, zbk, zbl, zbm, zbn, zbo, zbp, zbq, zbr, zbs, zbt, zbu, zbv, zbw, zbx, zby, zbz, zca, zcb, zcc, zcd, zce, zcf, zcg, zch, zci, zcj, zck, zcl, zcm, zcn, zco, zcp, zcq, zcr, zcs, zct, zcu, zcv, zcw, zcx, zcy, zcz, zda, zdb, zdc, zdd, zde, zdf, Option.getD_some, Option.getD_none, zet, zeu, zev, zew, zex, zey, zez, zfa, Option.map_some, Option.map_none, Option.bind_some, List.map_cons, List.map_nil, List.cons_append, List.nil_append, ↓reduceIte, Nat.reduceEqDiff, Nat.reduceAdd, decide_true, decide_false, Bool.true_eq_false, Bool.false_eq_true, env0, List.getElem?_cons_zero, List.getElem?_cons_succ, zdg, zdh, zdi, zdj, zdk, zdl, zdm, zdn, ia22, ld31, zdo, zdp, zdq, zdr, zds, zdt, zdu, zdv, zdw, zdx, zdy, zdz, zea, zeb, zec, fa_0, fa_1, zed, bd_0, bd_2, zee, fd_1, zef, Nat.zero_add, st0_1, c1, h0]
      exact finish_i _ _ _ _ _ _ _ (by simp only [zfa, ↓reduceIte]) rfl
theorem madeF_not {z : Int} (h : ¬ z.natAbs < B ^ 12) : madeF z = .tup [encA false .n [], .bool false] := by
  rw [madeF, mkZ_not h, gm, if_neg h]
  simp [canA, digs_0]
theorem down_cut (z : Int) (N : Nat) (h : z.natAbs < B ^ 12) (hN : 10000 < N) : shZ z (-(N : Int)) = shZ z (-((10000 : Nat) : Int)) := by
  have h1 : B ^ 12 ≤ 2 ^ N := B_le 12 N (by omega)
  obtain ⟨m, hm⟩ : ∃ m, m = 10000 := ⟨_, rfl⟩
  have h2 : B ^ 12 ≤ 2 ^ m := B_le 12 m (by omega)
  rw [← hm]
  by_cases hz : z < 0
  · rw [← down_neg z N hz, ← down_neg z m hz, Nat.div_eq_of_lt (by omega), Nat.div_eq_of_lt (by omega)]
  · rw [← down_pos z N hz, ← down_pos z m hz, Nat.div_eq_of_lt (by omega), Nat.div_eq_of_lt (by omega)]
-- Down.
set_option maxHeartbeats 8000000 in
theorem rdown_eq (n d : Nat) (hn : 100000 ≤ n) (g : Gk) (z : Int) (hlt : z.natAbs < B ^ 12) (N c : Nat) (hc : c = min N 10001) : evalFn Tryd.prog cfg0 n (d+5) 54 [.tree (canA g z), .tree (.int .i64 (c : Int)), .tree (.bool false)] = some (.tree (madeF (shZ z (-(N : Int)))), [[], [], []]) := by
  obtain ⟨m, hm, hm'⟩ : ∃ m : Nat, shZ z (-(N : Int)) = shZ z (-(m : Int)) ∧ ((c ≤ 10000 ∧ m = c) ∨ (10000 < c ∧ m = 10000)) := by
    by_cases h : N ≤ 10000
    · exact ⟨N, rfl, .inl (by omega)⟩
    · exact ⟨10000, down_cut z N hlt (by omega), .inr (by omega)⟩
  rw [hm]
  clear hm
  rw [evalFn_go _ Tryd.func54 (by unfold Tryd.f54; rfl) (by unfold Tryd.f54; decide) (Nat.le_of_ble_eq_true (by unfold Tryd.f54; rfl)) (by kernel_rfl)]
  have one1 : Num (.sl [.int .u32 1] 1 .tight) 1 := ⟨[1], ⟨_, rfl⟩, limbs_one (by decide), by decide, rfl⟩
  have hle := Nat.div_le_self (lessN z) (2 ^ m)
  have hle' := Nat.div_le_self z.natAbs (2 ^ m)
  have hll := less_le z
  have b1 := fun D s => callA_trees (cfg := cfg0) (d := D) (s := s) (f := 75) (vs := [canA g z]) rfl (rless_eq n d hn g z hlt)
  have nl : Num (encL (lessG g z) (digs (lessN z))) (lessN z) := by
    have := num_L (lessG g z) (digs (lessN z)) (limbs_digs _) (by have := digs_len (lessN z) 12 (by omega); omega)
    rw [val_digs] at this; exact this
  have c1 := fun D s => rcShr n (d + 2) hn D s nl (m : Int) (by omega)
  have c2 := fun D s => rcShr n (d + 2) hn D s (num_can g z hlt) (m : Int) (by omega)
  rw [Int.toNat_natCast] at c1 c2
  have c3 := fun D s => rcAdd n (d + 2) hn D s (num_F (lessN z / 2 ^ m) 12 (by decide) (by omega)) one1
  have c4 := fun D s => cRmade n (d + 2) hn D s (num_F (lessN z / 2 ^ m + 1) 13 (by decide) (by
    have h1 : B ^ 12 < B ^ 13 := Nat.pow_lt_pow_right (by decide) (by decide)
    omega)) true
  have c5 := fun D s => cRmade n (d + 2) hn D s (num_F (z.natAbs / 2 ^ m) 12 (by decide) (by omega)) false
  by_cases hz : z < 0
  · have e : lessN z = z.natAbs - 1 := by unfold lessN; rw [if_pos hz]
    rw [e, down_neg z m hz] at c4
    rw [e] at c1 c3
    simp only [canA, encA, e, hz, decide_true] at b1
    rcases hm' with ⟨h1, rfl⟩ | ⟨h1, h2⟩
    · have q1 : ¬ (m : Int) > 10000 := by omega
      simp only [zaa, zab, zac, zad, zae, zaf, zag, zah, zai, zaj, zak, zal, zam, zan, zao, zap, zaq, zar, zas, zat, zau, zav, zaw, zax, zay, zaz, zba, zbb, zbc, zbd, zbe, zbf, zbg, zbh, zbi, zbj, Nat.reduceBEq, Bool.or_self, Bool.or_false, Bool.or_true, Bool.and_true, Bool.and_false, Bool.true_and, Bool.false_and, Option.isNone_none, Option.isNone_some, Option.isSome_some, Option.isSome_none, zbk, zbl, zbm, zbn, zbo, zbp, zbq, zbr, zbs, zbt, zbu, zbv, zbw, zbx, zby, zbz, zca, zcb, zcc, zcd, zce, zcf, zcg, zch, zci, zcj, zck, zcl, zcm, zcn, zco, zcp, zcq, zcr, zcs, zct, zcu, zcv, zcw, zcx, zcy, zcz, zda, zdb, zdc, zdd, zde, zdf, Option.getD_some, Option.getD_none, zet, zeu, zev, zew, zex, zey, zez, zfa, Option.map_some, Option.map_none, Option.bind_some, List.map_cons, List.map_nil, List.cons_append, List.nil_append, ↓reduceIte, Nat.reduceEqDiff, Nat.reduceAdd, decide_true, decide_false, Bool.true_eq_false, Bool.false_eq_true, env0, List.getElem?_cons_zero, List.getElem?_cons_succ, zdg, zdh, zdi, zdj, zdk, zdl, zdm, zdn, ia22, ld31, zdo, zdp, zdq, zdr, zds, zdt, zdu, zdv, zdw, zdx, zdy, zdz, zea, zeb, zec, fa_0, fa_1, zed, bd_0, bd_2, zee, fd_1, zef, Nat.zero_add, st0_3', q1, hz, b1, c1, opA_one, one22_int, c3, c4, madeF_eq, ext_0, ext_1, zeb]
      exact finish_ct _ _ 6 6 1 _ _ _ _ _ _ _ (by simp only [zfa, ↓reduceIte, Nat.reduceEqDiff]) (by simp only [zfa, ↓reduceIte, Nat.reduceEqDiff]) (by simp only [zfa, ↓reduceIte, Nat.reduceEqDiff]) rfl
    · have q1 : (c : Int) > 10000 := by omega
      have q2 : (m : Int) = 10000 := by omega
      rw [q2] at c1
      simp only [zaa, zab, zac, zad, zae, zaf, zag, zah, zai, zaj, zak, zal, zam, zan, zao, zap, zaq, zar, zas, zat, zau, zav, zaw, zax, zay, zaz, zba, zbb, zbc, zbd, zbe, zbf, zbg, zbh, zbi, zbj, Nat.reduceBEq, Bool.or_self, Bool.or_false, Bool.or_true, Bool.and_true, Bool.and_false, Bool.true_and, Bool.false_and, Option.isNone_none, Option.isNone_some, Option.isSome_some, Option.isSome_none, zbk, zbl, zbm, zbn, zbo, zbp, zbq, zbr, zbs, zbt, zbu, zbv, zbw, zbx, zby, zbz, zca, zcb, zcc, zcd, zce, zcf, zcg, zch, zci, zcj, zck, zcl, zcm, zcn, zco, zcp, zcq, zcr, zcs, zct, zcu, zcv, zcw, zcx, zcy, zcz, zda, zdb, zdc, zdd, zde, zdf, Option.getD_some, Option.getD_none, zet, zeu, zev, zew, zex, zey, zez, zfa, Option.map_some, Option.map_none, Option.bind_some, List.map_cons, List.map_nil, List.cons_append, List.nil_append, ↓reduceIte, Nat.reduceEqDiff, Nat.reduceAdd, decide_true, decide_false, Bool.true_eq_false, Bool.false_eq_true, env0, List.getElem?_cons_zero, List.getElem?_cons_succ, zdg, zdh, zdi, zdj, zdk, zdl, zdm, zdn, ia22, ld31, zdo, zdp, zdq, zdr, zds, zdt, zdu, zdv, zdw, zdx, zdy, zdz, zea, zeb, zec, fa_0, fa_1, zed, bd_0, bd_2, zee, fd_1, zef, Nat.zero_add, st0_3', q1, hz, b1, c1, opA_one, one22_int, c3, c4, madeF_eq, ext_0, ext_1, zeb]
      exact finish_ct _ _ 6 6 1 _ _ _ _ _ _ _ (by simp only [zfa, ↓reduceIte, Nat.reduceEqDiff]) (by simp only [zfa, ↓reduceIte, Nat.reduceEqDiff]) (by simp only [zfa, ↓reduceIte, Nat.reduceEqDiff]) rfl
  · rw [down_pos z m hz] at c5
    rcases hm' with ⟨h1, rfl⟩ | ⟨h1, h2⟩
    · have q1 : ¬ (m : Int) > 10000 := by omega
      simp only [zaa, zab, zac, zad, zae, zaf, zag, zah, zai, zaj, zak, zal, zam, zan, zao, zap, zaq, zar, zas, zat, zau, zav, zaw, zax, zay, zaz, zba, zbb, zbc, zbd, zbe, zbf, zbg, zbh, zbi, zbj, Nat.reduceBEq, Bool.or_self, Bool.or_false, Bool.or_true, Bool.and_true, Bool.and_false, Bool.true_and, Bool.false_and, Option.isNone_none, Option.isNone_some, Option.isSome_some, Option.isSome_none, zbk, zbl, zbm, zbn, zbo, zbp, zbq, zbr, zbs, zbt, zbu, zbv, zbw, zbx, zby, zbz, zca, zcb, zcc, zcd, zce, zcf, zcg, zch, zci, zcj, zck, zcl, zcm, zcn, zco, zcp, zcq, zcr, zcs, zct, zcu, zcv, zcw, zcx, zcy, zcz, zda, zdb, zdc, zdd, zde, zdf, Option.getD_some, Option.getD_none, zet, zeu, zev, zew, zex, zey, zez, zfa, Option.map_some, Option.map_none, Option.bind_some, List.map_cons, List.map_nil, List.cons_append, List.nil_append, ↓reduceIte, Nat.reduceEqDiff, Nat.reduceAdd, decide_true, decide_false, Bool.true_eq_false, Bool.false_eq_true, env0, List.getElem?_cons_zero, List.getElem?_cons_succ, zdg, zdh, zdi, zdj, zdk, zdl, zdm, zdn, ia22, ld31, zdo, zdp, zdq, zdr, zds, zdt, zdu, zdv, zdw, zdx, zdy, zdz, zea, zeb, zec, fa_0, fa_1, zed, bd_0, bd_2, zee, fd_1, zef, Nat.zero_add, st0_3', q1, hz, c2, c5, madeF_eq, ext_0, ext_1, zeb]
      exact finish_ct _ _ 6 6 1 _ _ _ _ _ _ _ (by simp only [zfa, ↓reduceIte, Nat.reduceEqDiff]) (by simp only [zfa, ↓reduceIte, Nat.reduceEqDiff]) (by simp only [zfa, ↓reduceIte, Nat.reduceEqDiff]) rfl
    · have q1 : (c : Int) > 10000 := by omega
      have q2 : (m : Int) = 10000 := by omega
      rw [q2] at c2
      simp only [zaa, zab, zac, zad, zae, zaf, zag, zah, zai, zaj, zak, zal, zam, zan, zao, zap, zaq, zar, zas, zat, zau, zav, zaw, zax, zay, zaz, zba, zbb, zbc, zbd, zbe, zbf, zbg, zbh, zbi, zbj, Nat.reduceBEq, Bool.or_self, Bool.or_false, Bool.or_true, Bool.and_true, Bool.and_false, Bool.true_and, Bool.false_and, Option.isNone_none, Option.isNone_some, Option.isSome_some, Option.isSome_none, zbk, zbl, zbm, zbn, zbo, zbp, zbq, zbr, zbs, zbt, zbu, zbv, zbw, zbx, zby, zbz, zca, zcb, zcc, zcd, zce, zcf, zcg, zch, zci, zcj, zck, zcl, zcm, zcn, zco, zcp, zcq, zcr, zcs, zct, zcu, zcv, zcw, zcx, zcy, zcz, zda, zdb, zdc, zdd, zde, zdf, Option.getD_some, Option.getD_none, zet, zeu, zev, zew, zex, zey, zez, zfa, Option.map_some, Option.map_none, Option.bind_some, List.map_cons, List.map_nil, List.cons_append, List.nil_append, ↓reduceIte, Nat.reduceEqDiff, Nat.reduceAdd, decide_true, decide_false, Bool.true_eq_false, Bool.false_eq_true, env0, List.getElem?_cons_zero, List.getElem?_cons_succ, zdg, zdh, zdi, zdj, zdk, zdl, zdm, zdn, ia22, ld31, zdo, zdp, zdq, zdr, zds, zdt, zdu, zdv, zdw, zdx, zdy, zdz, zea, zeb, zec, fa_0, fa_1, zed, bd_0, bd_2, zee, fd_1, zef, Nat.zero_add, st0_3', q1, hz, c2, c5, madeF_eq, ext_0, ext_1, zeb]
      exact finish_ct _ _ 6 6 1 _ _ _ _ _ _ _ (by simp only [zfa, ↓reduceIte, Nat.reduceEqDiff]) (by simp only [zfa, ↓reduceIte, Nat.reduceEqDiff]) (by simp only [zfa, ↓reduceIte, Nat.reduceEqDiff]) rfl
-- Up.
set_option maxHeartbeats 8000000 in
theorem rup_eq (n d : Nat) (hn : 100000 ≤ n) (g : Gk) (z : Int) (hlt : z.natAbs < B ^ 12) (N c : Nat) (hc : c = min N 10001) : evalFn Tryd.prog cfg0 n (d+5) 54 [.tree (canA g z), .tree (.int .i64 (c : Int)), .tree (.bool true)] = some (.tree (madeF (shZ z (N : Int))), [[], [], []]) := by
  rw [evalFn_go _ Tryd.func54 (by unfold Tryd.f54; rfl) (by unfold Tryd.f54; decide) (Nat.le_of_ble_eq_true (by unfold Tryd.f54; rfl)) (by kernel_rfl)]
  have p0 : (((digs z.natAbs).length : Nat) : Int) > 0 ↔ z ≠ 0 := by
    have := digs_len0 z.natAbs
    omega
  by_cases hfar : 10000 < c ∧ z ≠ 0
  · have q1 : (c : Int) > 10000 := by omega
    have q2 := p0.mpr hfar.2
    rw [madeF_not (far_up0 z N hfar.2 (by omega))]
    simp only [zaa, zab, zac, zad, zae, zaf, zag, zah, zai, zaj, zak, zal, zam, zan, zao, zap, zaq, zar, zas, zat, zau, zav, zaw, zax, zay, zaz, zba, zbb, zbc, zbd, zbe, zbf, zbg, zbh, zbi, zbj, Nat.reduceBEq, Bool.or_self, Bool.or_false, Bool.or_true, Bool.and_true, Bool.and_false, Bool.true_and, Bool.false_and, Option.isNone_none, Option.isNone_some, Option.isSome_some, Option.isSome_none, zbk, zbl, zbm, zbn, zbo, zbp, zbq, zbr, zbs, zbt, zbu, zbv, zbw, zbx, zby, zbz, zca, zcb, zcc, zcd, zce, zcf, zcg, zch, zci, zcj, zck, zcl, zcm, zcn, zco, zcp, zcq, zcr, zcs, zct, zcu, zcv, zcw, zcx, zcy, zcz, zda, zdb, zdc, zdd, zde, zdf, Option.getD_some, Option.getD_none, zet, zeu, zev, zew, zex, zey, zez, zfa, Option.map_some, Option.map_none, Option.bind_some, List.map_cons, List.map_nil, List.cons_append, List.nil_append, ↓reduceIte, Nat.reduceEqDiff, Nat.reduceAdd, decide_true, decide_false, Bool.true_eq_false, Bool.false_eq_true, env0, List.getElem?_cons_zero, List.getElem?_cons_succ, zdg, zdh, zdi, zdj, zdk, zdl, zdm, zdn, ia22, ld31, zdo, zdp, zdq, zdr, zds, zdt, zdu, zdv, zdw, zdx, zdy, zdz, zea, zeb, zec, fa_0, fa_1, zed, bd_0, bd_2, zee, fd_1, zef, Nat.zero_add, st0_3', q1, q2]
    exact finish_ct _ _ 6 6 1 _ _ _ _ _ _ _ (by simp only [zfa, ↓reduceIte, Nat.reduceEqDiff]) (by simp only [zfa, ↓reduceIte, Nat.reduceEqDiff]) (by simp only [zfa, ↓reduceIte, Nat.reduceEqDiff]) rfl
  · obtain ⟨M, hM, hMe, hM4⟩ : ∃ M : Nat, (if (10000 : Int) < (c : Int) then 10000 else (c : Int)) = (M : Int) ∧ shZ z (N : Int) = shZ z (M : Int) ∧ M ≤ 10000 := by
      by_cases h : 10000 < c
      · have h0 : z = 0 := Classical.byContradiction fun h0 => hfar ⟨h, h0⟩
        refine ⟨10000, by rw [if_pos (by omega)]; rfl, by rw [h0, shZ_0, shZ_0], by omega⟩
      · exact ⟨c, by rw [if_neg (by omega)], by rw [show N = c by omega], by omega⟩
    have mn := min_Z (c : Int) 10000
    rw [hM] at mn
    rw [hMe]
    clear hMe hM
    have hq : ¬ (c : Int) > 10000 ∨ ((c : Int) > 10000 ∧ ¬ ((digs z.natAbs).length : Int) > 0) := by
      by_cases h : (c : Int) > 10000
      · exact .inr ⟨h, fun h' => hfar ⟨by omega, p0.mp h'⟩⟩
      · exact .inl h
    rcases hq with q1 | ⟨q1, q2⟩
    · simp only [zaa, zab, zac, zad, zae, zaf, zag, zah, zai, zaj, zak, zal, zam, zan, zao, zap, zaq, zar, zas, zat, zau, zav, zaw, zax, zay, zaz, zba, zbb, zbc, zbd, zbe, zbf, zbg, zbh, zbi, zbj, Nat.reduceBEq, Bool.or_self, Bool.or_false, Bool.or_true, Bool.and_true, Bool.and_false, Bool.true_and, Bool.false_and, Option.isNone_none, Option.isNone_some, Option.isSome_some, Option.isSome_none, zbk, zbl, zbm, zbn, zbo, zbp, zbq, zbr, zbs, zbt, zbu, zbv, zbw, zbx, zby, zbz, zca, zcb, zcc, zcd, zce, zcf, zcg, zch, zci, zcj, zck, zcl, zcm, zcn, zco, zcp, zcq, zcr, zcs, zct, zcu, zcv, zcw, zcx, zcy, zcz, zda, zdb, zdc, zdd, zde, zdf, Option.getD_some, Option.getD_none, zet, zeu, zev, zew, zex, zey, zez, zfa, Option.map_some, Option.map_none, Option.bind_some, List.map_cons, List.map_nil, List.cons_append, List.nil_append, ↓reduceIte, Nat.reduceEqDiff, Nat.reduceAdd, decide_true, decide_false, Bool.true_eq_false, Bool.false_eq_true, env0, List.getElem?_cons_zero, List.getElem?_cons_succ, zdg, zdh, zdi, zdj, zdk, zdl, zdm, zdn, ia22, ld31, zdo, zdp, zdq, zdr, zds, zdt, zdu, zdv, zdw, zdx, zdy, zdz, zea, zeb, zec, fa_0, fa_1, zed, bd_0, bd_2, zee, fd_1, zef, Nat.zero_add, st0_3', q1, mn, den_loop]
      refine loop_ends (X := Nat × Int × Gk) (fun x env s => env 3 = .ptr 3 1 0 ∧ env 6 = .ptr 6 1 0 ∧ env 9 = .int .i64 x.2.1 ∧ env 8 = encL x.2.2 (digs (z.natAbs * 2 ^ x.1)) ∧ s 3 = ⟨1, .buf [.bool (decide (z < 0)), encL g (digs z.natAbs)]⟩ ∧ s 6 = ⟨1, .buf [.bool false, .sl [] 0 .nil]⟩ ∧ x.1 ≤ M ∧ ((0 < x.2.1 ∧ x.2.1 = (M : Int) - (x.1 : Int)) ∨ (x.2.1 ≤ 0 ∧ -10000 ≤ x.2.1 ∧ x.1 = M)) ∧ z.natAbs * 2 ^ x.1 < B ^ 12) (fun x => M - x.1) (fun _ => (.tree (madeF (shZ z (M : Int))), [[], [], []])) ?_ n (0, (M : Int), g) _ _ (by simp only; omega) ⟨by simp only [zfa, ↓reduceIte, Nat.reduceEqDiff], by simp only [zfa, ↓reduceIte, Nat.reduceEqDiff], by simp only [zfa, ↓reduceIte, Nat.reduceEqDiff], by rw [Nat.pow_zero, Nat.mul_one]; simp only [zfa, ↓reduceIte, Nat.reduceEqDiff], by simp only [zfa, ↓reduceIte, Nat.reduceEqDiff], by simp only [zfa, ↓reduceIte, Nat.reduceEqDiff], Nat.zero_le _, by simp only; omega, by rw [Nat.pow_zero, Nat.mul_one]; exact hlt⟩
      intro k ⟨j, i, gg⟩ hxk ih env s ⟨e3, e6, e9, e8, j3, j6, hj, hi, hv⟩
      simp only at e9 e8 hj hi hv hxk
      by_cases hp : i > 0
      · have hi' : i = (M : Int) - (j : Int) := by omega
        obtain ⟨cc, hcc, hc1, hc2, hc3⟩ : ∃ cc : Nat, (if (32 : Int) < i then 32 else i) = (cc : Int) ∧ 1 ≤ cc ∧ cc ≤ 32 ∧ j + cc ≤ M ∧ ((0 < i - 32 ∧ i - 32 = (M : Int) - ((j + cc : Nat) : Int)) ∨ (i - 32 ≤ 0 ∧ -10000 ≤ i - 32 ∧ j + cc = M)) := by
          by_cases h : (32 : Int) < i
          · exact ⟨32, by rw [if_pos h]; rfl, by omega, by omega, by omega, by omega⟩
          · exact ⟨i.toNat, by rw [if_neg h]; omega, by omega, by omega, by omega, by omega⟩
        have m1 := min_Z i 32
        rw [hcc] at m1
        have nv := num_L gg (digs (z.natAbs * 2 ^ j)) (limbs_digs _) (by have := digs_len _ 12 hv; omega)
        rw [val_digs] at nv
        have c1 := fun D s => rcShl n (d + 2) hn D s nv (cc : Int)
        have hsh : shn (cc : Int) = cc := by unfold shn; rw [if_neg (by omega)]; exact Int.toNat_natCast cc
        rw [hsh, Nat.mul_assoc, ← Nat.pow_add] at c1
        have a1 := i_sub Tryd.prog 3 i 32 (by omega) (by omega)
        have hln := digs_len_le (z.natAbs * 2 ^ (j + cc)) 12
        by_cases hf : z.natAbs * 2 ^ (j + cc) < B ^ 12
        · have q3 : ¬ ((digs (z.natAbs * 2 ^ (j + cc))).length : Int) > 12 := by have := hln.mpr hf; omega
          simp only [zaa, zab, zac, zad, zae, zaf, zag, zah, zai, zaj, zak, zal, zam, zan, zao, zap, zaq, zar, zas, zat, zau, zav, zaw, zax, zay, zaz, zba, zbb, zbc, zbd, zbe, zbf, zbg, zbh, zbi, zbj, Nat.reduceBEq, Bool.or_self, Bool.or_false, Bool.or_true, Bool.and_true, Bool.and_false, Bool.true_and, Bool.false_and, Option.isNone_none, Option.isNone_some, Option.isSome_some, Option.isSome_none, zbk, zbl, zbm, zbn, zbo, zbp, zbq, zbr, zbs, zbt, zbu, zbv, zbw, zbx, zby, zbz, zca, zcb, zcc, zcd, zce, zcf, zcg, zch, zci, zcj, zck, zcl, zcm, zcn, zco, zcp, zcq, zcr, zcs, zct, zcu, zcv, zcw, zcx, zcy, zcz, zda, zdb, zdc, zdd, zde, zdf, Option.getD_some, Option.getD_none, zet, zeu, zev, zew, zex, zey, zez, zfa, Option.map_some, Option.map_none, Option.bind_some, List.map_cons, List.map_nil, List.cons_append, List.nil_append, ↓reduceIte, Nat.reduceEqDiff, Nat.reduceAdd, decide_true, decide_false, Bool.true_eq_false, Bool.false_eq_true, env0, List.getElem?_cons_zero, List.getElem?_cons_succ, zdg, zdh, zdi, zdj, zdk, zdl, zdm, zdn, ia22, ld31, zdo, zdp, zdq, zdr, zds, zdt, zdu, zdv, zdw, zdx, zdy, zdz, zea, zeb, zec, fa_0, fa_1, zed, bd_0, bd_2, zee, fd_1, zef, Nat.zero_add, e3, e6, e9, e8, j3, j6, hp, m1, c1, lenF, q3, a1]
          refine ih (j + cc, i - 32, .l) _ _ (by simp only; omega) rfl ⟨?_, ?_, ?_, ?_, j3, j6, hc3.1, hc3.2, hf⟩
          · simp only [zfa, ↓reduceIte, Nat.reduceEqDiff, e3]
          · simp only [zfa, ↓reduceIte, Nat.reduceEqDiff, e6]
          · simp only [zfa, ↓reduceIte, Nat.reduceEqDiff]
          · simp only [zfa, ↓reduceIte, Nat.reduceEqDiff]; rfl
        · have q3 : ((digs (z.natAbs * 2 ^ (j + cc))).length : Int) > 12 := by
            have : ¬ (digs (z.natAbs * 2 ^ (j + cc))).length ≤ 12 := fun h => hf (hln.mp h)
            omega
          have hbig : ¬ (shZ z (M : Int)).natAbs < B ^ 12 := by
            rw [← up_sgn, sgn_abs]
            have h1 : 2 ^ (j + cc) ≤ 2 ^ M := Nat.pow_le_pow_right (by decide) hc3.1
            have h2 := Nat.mul_le_mul_left z.natAbs h1
            omega
          rw [madeF_not hbig]
          simp only [zaa, zab, zac, zad, zae, zaf, zag, zah, zai, zaj, zak, zal, zam, zan, zao, zap, zaq, zar, zas, zat, zau, zav, zaw, zax, zay, zaz, zba, zbb, zbc, zbd, zbe, zbf, zbg, zbh, zbi, zbj, Nat.reduceBEq, Bool.or_self, Bool.or_false, Bool.or_true, Bool.and_true, Bool.and_false, Bool.true_and, Bool.false_and, Option.isNone_none, Option.isNone_some, Option.isSome_some, Option.isSome_none, zbk, zbl, zbm, zbn, zbo, zbp, zbq, zbr, zbs, zbt, zbu, zbv, zbw, zbx, zby, zbz, zca, zcb, zcc, zcd, zce, zcf, zcg, zch, zci, zcj, zck, zcl, zcm, zcn, zco, zcp, zcq, zcr, zcs, zct, zcu, zcv, zcw, zcx, zcy, zcz, zda, zdb, zdc, zdd, zde, zdf, Option.getD_some, Option.getD_none, zet, zeu, zev, zew, zex, zey, zez, zfa, Option.map_some, Option.map_none, Option.bind_some, List.map_cons, List.map_nil, List.cons_append, List.nil_append, ↓reduceIte, Nat.reduceEqDiff, Nat.reduceAdd, decide_true, decide_false, Bool.true_eq_false, Bool.false_eq_true, env0, List.getElem?_cons_zero, List.getElem?_cons_succ, zdg, zdh, zdi, zdj, zdk, zdl, zdm, zdn, ia22, ld31, zdo, zdp, zdq, zdr, zds, zdt, zdu, zdv, zdw, zdx, zdy, zdz, zea, zeb, zec, fa_0, fa_1, zed, bd_0, bd_2, zee, fd_1, zef, Nat.zero_add, e3, e6, e9, e8, j3, j6, hp, m1, c1, lenF, q3, a1]
          exact finish_ct _ _ 6 6 1 _ _ _ _ _ _ _ (by simp only [zfa, ↓reduceIte, Nat.reduceEqDiff, e6]) (by simp only [zfa, ↓reduceIte, Nat.reduceEqDiff]) (by simp only [zfa, ↓reduceIte, Nat.reduceEqDiff]) rfl
      · obtain rfl : j = M := by omega
        have nv := num_L gg (digs (z.natAbs * 2 ^ j)) (limbs_digs _) (by have := digs_len _ 12 hv; omega)
        rw [val_digs] at nv
        have c2 := fun D s => cRmade n (d + 2) hn D s nv (decide (z < 0))
        rw [up_sgn] at c2
        simp only [zaa, zab, zac, zad, zae, zaf, zag, zah, zai, zaj, zak, zal, zam, zan, zao, zap, zaq, zar, zas, zat, zau, zav, zaw, zax, zay, zaz, zba, zbb, zbc, zbd, zbe, zbf, zbg, zbh, zbi, zbj, Nat.reduceBEq, Bool.or_self, Bool.or_false, Bool.or_true, Bool.and_true, Bool.and_false, Bool.true_and, Bool.false_and, Option.isNone_none, Option.isNone_some, Option.isSome_some, Option.isSome_none, zbk, zbl, zbm, zbn, zbo, zbp, zbq, zbr, zbs, zbt, zbu, zbv, zbw, zbx, zby, zbz, zca, zcb, zcc, zcd, zce, zcf, zcg, zch, zci, zcj, zck, zcl, zcm, zcn, zco, zcp, zcq, zcr, zcs, zct, zcu, zcv, zcw, zcx, zcy, zcz, zda, zdb, zdc, zdd, zde, zdf, Option.getD_some, Option.getD_none, zet, zeu, zev, zew, zex, zey, zez, zfa, Option.map_some, Option.map_none, Option.bind_some, List.map_cons, List.map_nil, List.cons_append, List.nil_append, ↓reduceIte, Nat.reduceEqDiff, Nat.reduceAdd, decide_true, decide_false, Bool.true_eq_false, Bool.false_eq_true, env0, List.getElem?_cons_zero, List.getElem?_cons_succ, zdg, zdh, zdi, zdj, zdk, zdl, zdm, zdn, ia22, ld31, zdo, zdp, zdq, zdr, zds, zdt, zdu, zdv, zdw, zdx, zdy, zdz, zea, zeb, zec, fa_0, fa_1, zed, bd_0, bd_2, zee, fd_1, zef, Nat.zero_add, e3, e6, e9, e8, j3, j6, hp, c2, madeF_eq, ext_0, ext_1, zeb]
        exact finish_ct _ _ 6 6 1 _ _ _ _ _ _ _ (by simp only [zfa, ↓reduceIte, Nat.reduceEqDiff, e6]) (by simp only [zfa, ↓reduceIte, Nat.reduceEqDiff]) (by simp only [zfa, ↓reduceIte, Nat.reduceEqDiff]) rfl
    · simp only [zaa, zab, zac, zad, zae, zaf, zag, zah, zai, zaj, zak, zal, zam, zan, zao, zap, zaq, zar, zas, zat, zau, zav, zaw, zax, zay, zaz, zba, zbb, zbc, zbd, zbe, zbf, zbg, zbh, zbi, zbj, Nat.reduceBEq, Bool.or_self, Bool.or_false, Bool.or_true, Bool.and_true, Bool.and_false, Bool.true_and, Bool.false_and, Option.isNone_none, Option.isNone_some, Option.isSome_some, Option.isSome_none, zbk, zbl, zbm, zbn, zbo, zbp, zbq, zbr, zbs, zbt, zbu, zbv, zbw, zbx, zby, zbz, zca, zcb, zcc, zcd, zce, zcf, zcg, zch, zci, zcj, zck, zcl, zcm, zcn, zco, zcp, zcq, zcr, zcs, zct, zcu, zcv, zcw, zcx, zcy, zcz, zda, zdb, zdc, zdd, zde, zdf, Option.getD_some, Option.getD_none, zet, zeu, zev, zew, zex, zey, zez, zfa, Option.map_some, Option.map_none, Option.bind_some, List.map_cons, List.map_nil, List.cons_append, List.nil_append, ↓reduceIte, Nat.reduceEqDiff, Nat.reduceAdd, decide_true, decide_false, Bool.true_eq_false, Bool.false_eq_true, env0, List.getElem?_cons_zero, List.getElem?_cons_succ, zdg, zdh, zdi, zdj, zdk, zdl, zdm, zdn, ia22, ld31, zdo, zdp, zdq, zdr, zds, zdt, zdu, zdv, zdw, zdx, zdy, zdz, zea, zeb, zec, fa_0, fa_1, zed, bd_0, bd_2, zee, fd_1, zef, Nat.zero_add, st0_3', q1, q2, mn, den_loop]
      refine loop_ends (X := Nat × Int × Gk) (fun x env s => env 3 = .ptr 3 1 0 ∧ env 6 = .ptr 6 1 0 ∧ env 9 = .int .i64 x.2.1 ∧ env 8 = encL x.2.2 (digs (z.natAbs * 2 ^ x.1)) ∧ s 3 = ⟨1, .buf [.bool (decide (z < 0)), encL g (digs z.natAbs)]⟩ ∧ s 6 = ⟨1, .buf [.bool false, .sl [] 0 .nil]⟩ ∧ x.1 ≤ M ∧ ((0 < x.2.1 ∧ x.2.1 = (M : Int) - (x.1 : Int)) ∨ (x.2.1 ≤ 0 ∧ -10000 ≤ x.2.1 ∧ x.1 = M)) ∧ z.natAbs * 2 ^ x.1 < B ^ 12) (fun x => M - x.1) (fun _ => (.tree (madeF (shZ z (M : Int))), [[], [], []])) ?_ n (0, (M : Int), g) _ _ (by simp only; omega) ⟨by simp only [zfa, ↓reduceIte, Nat.reduceEqDiff], by simp only [zfa, ↓reduceIte, Nat.reduceEqDiff], by simp only [zfa, ↓reduceIte, Nat.reduceEqDiff], by rw [Nat.pow_zero, Nat.mul_one]; simp only [zfa, ↓reduceIte, Nat.reduceEqDiff], by simp only [zfa, ↓reduceIte, Nat.reduceEqDiff], by simp only [zfa, ↓reduceIte, Nat.reduceEqDiff], Nat.zero_le _, by simp only; omega, by rw [Nat.pow_zero, Nat.mul_one]; exact hlt⟩
      intro k ⟨j, i, gg⟩ hxk ih env s ⟨e3, e6, e9, e8, j3, j6, hj, hi, hv⟩
      simp only at e9 e8 hj hi hv hxk
      by_cases hp : i > 0
      · have hi' : i = (M : Int) - (j : Int) := by omega
        obtain ⟨cc, hcc, hc1, hc2, hc3⟩ : ∃ cc : Nat, (if (32 : Int) < i then 32 else i) = (cc : Int) ∧ 1 ≤ cc ∧ cc ≤ 32 ∧ j + cc ≤ M ∧ ((0 < i - 32 ∧ i - 32 = (M : Int) - ((j + cc : Nat) : Int)) ∨ (i - 32 ≤ 0 ∧ -10000 ≤ i - 32 ∧ j + cc = M)) := by
          by_cases h : (32 : Int) < i
          · exact ⟨32, by rw [if_pos h]; rfl, by omega, by omega, by omega, by omega⟩
          · exact ⟨i.toNat, by rw [if_neg h]; omega, by omega, by omega, by omega, by omega⟩
        have m1 := min_Z i 32
        rw [hcc] at m1
        have nv := num_L gg (digs (z.natAbs * 2 ^ j)) (limbs_digs _) (by have := digs_len _ 12 hv; omega)
        rw [val_digs] at nv
        have c1 := fun D s => rcShl n (d + 2) hn D s nv (cc : Int)
        have hsh : shn (cc : Int) = cc := by unfold shn; rw [if_neg (by omega)]; exact Int.toNat_natCast cc
        rw [hsh, Nat.mul_assoc, ← Nat.pow_add] at c1
        have a1 := i_sub Tryd.prog 3 i 32 (by omega) (by omega)
        have hln := digs_len_le (z.natAbs * 2 ^ (j + cc)) 12
        by_cases hf : z.natAbs * 2 ^ (j + cc) < B ^ 12
        · have q3 : ¬ ((digs (z.natAbs * 2 ^ (j + cc))).length : Int) > 12 := by have := hln.mpr hf; omega
          simp only [zaa, zab, zac, zad, zae, zaf, zag, zah, zai, zaj, zak, zal, zam, zan, zao, zap, zaq, zar, zas, zat, zau, zav, zaw, zax, zay, zaz, zba, zbb, zbc, zbd, zbe, zbf, zbg, zbh, zbi, zbj, Nat.reduceBEq, Bool.or_self, Bool.or_false, Bool.or_true, Bool.and_true, Bool.and_false, Bool.true_and, Bool.false_and, Option.isNone_none, Option.isNone_some, Option.isSome_some, Option.isSome_none, zbk, zbl, zbm, zbn, zbo, zbp, zbq, zbr, zbs, zbt, zbu, zbv, zbw, zbx, zby, zbz, zca, zcb, zcc, zcd, zce, zcf, zcg, zch, zci, zcj, zck, zcl, zcm, zcn, zco, zcp, zcq, zcr, zcs, zct, zcu, zcv, zcw, zcx, zcy, zcz, zda, zdb, zdc, zdd, zde, zdf, Option.getD_some, Option.getD_none, zet, zeu, zev, zew, zex, zey, zez, zfa, Option.map_some, Option.map_none, Option.bind_some, List.map_cons, List.map_nil, List.cons_append, List.nil_append, ↓reduceIte, Nat.reduceEqDiff, Nat.reduceAdd, decide_true, decide_false, Bool.true_eq_false, Bool.false_eq_true, env0, List.getElem?_cons_zero, List.getElem?_cons_succ, zdg, zdh, zdi, zdj, zdk, zdl, zdm, zdn, ia22, ld31, zdo, zdp, zdq, zdr, zds, zdt, zdu, zdv, zdw, zdx, zdy, zdz, zea, zeb, zec, fa_0, fa_1, zed, bd_0, bd_2, zee, fd_1, zef, Nat.zero_add, e3, e6, e9, e8, j3, j6, hp, m1, c1, lenF, q3, a1]
          refine ih (j + cc, i - 32, .l) _ _ (by simp only; omega) rfl ⟨?_, ?_, ?_, ?_, j3, j6, hc3.1, hc3.2, hf⟩
          · simp only [zfa, ↓reduceIte, Nat.reduceEqDiff, e3]
          · simp only [zfa, ↓reduceIte, Nat.reduceEqDiff, e6]
          · simp only [zfa, ↓reduceIte, Nat.reduceEqDiff]
          · simp only [zfa, ↓reduceIte, Nat.reduceEqDiff]; rfl
        · have q3 : ((digs (z.natAbs * 2 ^ (j + cc))).length : Int) > 12 := by
            have : ¬ (digs (z.natAbs * 2 ^ (j + cc))).length ≤ 12 := fun h => hf (hln.mp h)
            omega
          have hbig : ¬ (shZ z (M : Int)).natAbs < B ^ 12 := by
            rw [← up_sgn, sgn_abs]
            have h1 : 2 ^ (j + cc) ≤ 2 ^ M := Nat.pow_le_pow_right (by decide) hc3.1
            have h2 := Nat.mul_le_mul_left z.natAbs h1
            omega
          rw [madeF_not hbig]
          simp only [zaa, zab, zac, zad, zae, zaf, zag, zah, zai, zaj, zak, zal, zam, zan, zao, zap, zaq, zar, zas, zat, zau, zav, zaw, zax, zay, zaz, zba, zbb, zbc, zbd, zbe, zbf, zbg, zbh, zbi, zbj, Nat.reduceBEq, Bool.or_self, Bool.or_false, Bool.or_true, Bool.and_true, Bool.and_false, Bool.true_and, Bool.false_and, Option.isNone_none, Option.isNone_some, Option.isSome_some, Option.isSome_none, zbk, zbl, zbm, zbn, zbo, zbp, zbq, zbr, zbs, zbt, zbu, zbv, zbw, zbx, zby, zbz, zca, zcb, zcc, zcd, zce, zcf, zcg, zch, zci, zcj, zck, zcl, zcm, zcn, zco, zcp, zcq, zcr, zcs, zct, zcu, zcv, zcw, zcx, zcy, zcz, zda, zdb, zdc, zdd, zde, zdf, Option.getD_some, Option.getD_none, zet, zeu, zev, zew, zex, zey, zez, zfa, Option.map_some, Option.map_none, Option.bind_some, List.map_cons, List.map_nil, List.cons_append, List.nil_append, ↓reduceIte, Nat.reduceEqDiff, Nat.reduceAdd, decide_true, decide_false, Bool.true_eq_false, Bool.false_eq_true, env0, List.getElem?_cons_zero, List.getElem?_cons_succ, zdg, zdh, zdi, zdj, zdk, zdl, zdm, zdn, ia22, ld31, zdo, zdp, zdq, zdr, zds, zdt, zdu, zdv, zdw, zdx, zdy, zdz, zea, zeb, zec, fa_0, fa_1, zed, bd_0, bd_2, zee, fd_1, zef, Nat.zero_add, e3, e6, e9, e8, j3, j6, hp, m1, c1, lenF, q3, a1]
          exact finish_ct _ _ 6 6 1 _ _ _ _ _ _ _ (by simp only [zfa, ↓reduceIte, Nat.reduceEqDiff, e6]) (by simp only [zfa, ↓reduceIte, Nat.reduceEqDiff]) (by simp only [zfa, ↓reduceIte, Nat.reduceEqDiff]) rfl
      · obtain rfl : j = M := by omega
        have nv := num_L gg (digs (z.natAbs * 2 ^ j)) (limbs_digs _) (by have := digs_len _ 12 hv; omega)
        rw [val_digs] at nv
        have c2 := fun D s => cRmade n (d + 2) hn D s nv (decide (z < 0))
        rw [up_sgn] at c2
        simp only [zaa, zab, zac, zad, zae, zaf, zag, zah, zai, zaj, zak, zal, zam, zan, zao, zap, zaq, zar, zas, zat, zau, zav, zaw, zax, zay, zaz, zba, zbb, zbc, zbd, zbe, zbf, zbg, zbh, zbi, zbj, Nat.reduceBEq, Bool.or_self, Bool.or_false, Bool.or_true, Bool.and_true, Bool.and_false, Bool.true_and, Bool.false_and, Option.isNone_none, Option.isNone_some, Option.isSome_some, Option.isSome_none, zbk, zbl, zbm, zbn, zbo, zbp, zbq, zbr, zbs, zbt, zbu, zbv, zbw, zbx, zby, zbz, zca, zcb, zcc, zcd, zce, zcf, zcg, zch, zci, zcj, zck, zcl, zcm, zcn, zco, zcp, zcq, zcr, zcs, zct, zcu, zcv, zcw, zcx, zcy, zcz, zda, zdb, zdc, zdd, zde, zdf, Option.getD_some, Option.getD_none, zet, zeu, zev, zew, zex, zey, zez, zfa, Option.map_some, Option.map_none, Option.bind_some, List.map_cons, List.map_nil, List.cons_append, List.nil_append, ↓reduceIte, Nat.reduceEqDiff, Nat.reduceAdd, decide_true, decide_false, Bool.true_eq_false, Bool.false_eq_true, env0, List.getElem?_cons_zero, List.getElem?_cons_succ, zdg, zdh, zdi, zdj, zdk, zdl, zdm, zdn, ia22, ld31, zdo, zdp, zdq, zdr, zds, zdt, zdu, zdv, zdw, zdx, zdy, zdz, zea, zeb, zec, fa_0, fa_1, zed, bd_0, bd_2, zee, fd_1, zef, Nat.zero_add, e3, e6, e9, e8, j3, j6, hp, c2, madeF_eq, ext_0, ext_1, zeb]
        exact finish_ct _ _ 6 6 1 _ _ _ _ _ _ _ (by simp only [zfa, ↓reduceIte, Nat.reduceEqDiff, e6]) (by simp only [zfa, ↓reduceIte, Nat.reduceEqDiff]) (by simp only [zfa, ↓reduceIte, Nat.reduceEqDiff]) rfl
end Go.Ab

/- The reference's Op, any op; the program's, of an op that is none. Conditions: limbs in range. -/
namespace Go.Ab
open Go.Proofs
set_option maxRecDepth 100000
set_option linter.unusedSimpArgs false

section
variable (n d : Nat) (hn : 100000 ≤ n) {w w' : AV} {z z' : Int} (hw : IsN w z) (hw' : IsN w' z')
include hn hw hw'
set_option maxHeartbeats 8000000
theorem rop6_eq : evalFn Tryd.prog cfg0 n (d+6) 25 [.tree (.int .i64 6), .tree w, .tree w'] = some (.tree (madeF (logZ 6 z z')), [[], [], []]) := by
  obtain ⟨g, c1⟩ := qRis n (d + 3) hw
  obtain ⟨g', c2⟩ := qRis n (d + 3) hw'
  have hlt := hw.lt
  have hlt' := hw'.lt
  obtain ⟨neg, g0, l, rfl, hl, hz⟩ := hw
  obtain ⟨neg', g0', l', rfl, hl', hz'⟩ := hw'
  rw [evalFn_go _ Tryd.func25 (by unfold Tryd.f25; rfl) (by unfold Tryd.f25; decide) (Nat.le_of_ble_eq_true (by unfold Tryd.f25; rfl)) (by kernel_rfl)]
  have c3 := fun D s => callA_trees (cfg := cfg0) (d := D) (s := s) (f := 52) (vs := [.int .i64 6, canA g z, canA g' z']) rfl (rlog_eq n d hn 6 (by decide) g g' z z' hlt hlt')
  simp only [zaa, zab, zac, zad, zae, zaf, zag, zah, zai, zaj, zak, zal, zam, zan, zao, zap, zaq, zar, zas, zat, zau, zav, zaw, zax, zay, zaz, zba, zbb, zbc, zbd, zbe, zbf, zbg, zbh, zbi, zbj, Nat.reduceBEq, Bool.or_self, Bool.or_false, Bool.or_true, Bool.and_true, Bool.and_false, Bool.true_and, Bool.false_and, Option.isNone_none, Option.isNone_some, Option.isSome_some, Option.isSome_none, zbk, zbl, zbm, zbn, zbo, zbp, zbq, zbr, zbs, zbt, zbu, zbv, zbw, zbx, zby, zbz, zca, zcb, zcc, zcd, zce, zcf, zcg, zch, zci, zcj, zck, zcl, zcm, zcn, zco, zcp, zcq, zcr, zcs, zct, zcu, zcv, zcw, zcx, zcy, zcz, zda, zdb, zdc, zdd, zde, zdf, Option.getD_some, Option.getD_none, zet, zeu, zev, zew, zex, zey, zez, zfa, Option.map_some, Option.map_none, Option.bind_some, List.map_cons, List.map_nil, List.cons_append, List.nil_append, ↓reduceIte, Nat.reduceEqDiff, Nat.reduceAdd, decide_true, decide_false, Bool.true_eq_false, Bool.false_eq_true, env0, List.getElem?_cons_zero, List.getElem?_cons_succ, zdg, zdh, zdi, zdj, zdk, zdl, zdm, zdn, ia22, ld31, zdo, zdp, zdq, zdr, zds, zdt, zdu, zdv, zdw, zdx, zdy, zdz, zea, zeb, zec, fa_0, fa_1, zed, bd_0, bd_2, zee, fd_1, zef, Nat.zero_add, st0_3', c1, c2, Int.reduceBEq, c3, madeF_eq, ext_0, ext_1, zeb]
  exact finish_ct _ _ 6 6 1 _ _ _ _ _ _ _ (by simp only [zfa, ↓reduceIte, Nat.reduceEqDiff]) (by simp only [zfa, ↓reduceIte, Nat.reduceEqDiff]) (by simp only [zfa, ↓reduceIte, Nat.reduceEqDiff]) rfl
theorem rop7_eq : evalFn Tryd.prog cfg0 n (d+6) 25 [.tree (.int .i64 7), .tree w, .tree w'] = some (.tree (madeF (logZ 7 z z')), [[], [], []]) := by
  obtain ⟨g, c1⟩ := qRis n (d + 3) hw
  obtain ⟨g', c2⟩ := qRis n (d + 3) hw'
  have hlt := hw.lt
  have hlt' := hw'.lt
  obtain ⟨neg, g0, l, rfl, hl, hz⟩ := hw
  obtain ⟨neg', g0', l', rfl, hl', hz'⟩ := hw'
  rw [evalFn_go _ Tryd.func25 (by unfold Tryd.f25; rfl) (by unfold Tryd.f25; decide) (Nat.le_of_ble_eq_true (by unfold Tryd.f25; rfl)) (by kernel_rfl)]
  have c3 := fun D s => callA_trees (cfg := cfg0) (d := D) (s := s) (f := 52) (vs := [.int .i64 7, canA g z, canA g' z']) rfl (rlog_eq n d hn 7 (by decide) g g' z z' hlt hlt')
  simp only [zaa, zab, zac, zad, zae, zaf, zag, zah, zai, zaj, zak, zal, zam, zan, zao, zap, zaq, zar, zas, zat, zau, zav, zaw, zax, zay, zaz, zba, zbb, zbc, zbd, zbe, zbf, zbg, zbh, zbi, zbj, Nat.reduceBEq, Bool.or_self, Bool.or_false, Bool.or_true, Bool.and_true, Bool.and_false, Bool.true_and, Bool.false_and, Option.isNone_none, Option.isNone_some, Option.isSome_some, Option.isSome_none, zbk, zbl, zbm, zbn, zbo, zbp, zbq, zbr, zbs, zbt, zbu, zbv, zbw, zbx, zby, zbz, zca, zcb, zcc, zcd, zce, zcf, zcg, zch, zci, zcj, zck, zcl, zcm, zcn, zco, zcp, zcq, zcr, zcs, zct, zcu, zcv, zcw, zcx, zcy, zcz, zda, zdb, zdc, zdd, zde, zdf, Option.getD_some, Option.getD_none, zet, zeu, zev, zew, zex, zey, zez, zfa, Option.map_some, Option.map_none, Option.bind_some, List.map_cons, List.map_nil, List.cons_append, List.nil_append, ↓reduceIte, Nat.reduceEqDiff, Nat.reduceAdd, decide_true, decide_false, Bool.true_eq_false, Bool.false_eq_true, env0, List.getElem?_cons_zero, List.getElem?_cons_succ, zdg, zdh, zdi, zdj, zdk, zdl, zdm, zdn, ia22, ld31, zdo, zdp, zdq, zdr, zds, zdt, zdu, zdv, zdw, zdx, zdy, zdz, zea, zeb, zec, fa_0, fa_1, zed, bd_0, bd_2, zee, fd_1, zef, Nat.zero_add, st0_3', c1, c2, Int.reduceBEq, c3, madeF_eq, ext_0, ext_1, zeb]
  exact finish_ct _ _ 6 6 1 _ _ _ _ _ _ _ (by simp only [zfa, ↓reduceIte, Nat.reduceEqDiff]) (by simp only [zfa, ↓reduceIte, Nat.reduceEqDiff]) (by simp only [zfa, ↓reduceIte, Nat.reduceEqDiff]) rfl
theorem rop8_eq : evalFn Tryd.prog cfg0 n (d+6) 25 [.tree (.int .i64 8), .tree w, .tree w'] = some (.tree (madeF (logZ 8 z z')), [[], [], []]) := by
  obtain ⟨g, c1⟩ := qRis n (d + 3) hw
  obtain ⟨g', c2⟩ := qRis n (d + 3) hw'
  have hlt := hw.lt
  have hlt' := hw'.lt
  obtain ⟨neg, g0, l, rfl, hl, hz⟩ := hw
  obtain ⟨neg', g0', l', rfl, hl', hz'⟩ := hw'
  rw [evalFn_go _ Tryd.func25 (by unfold Tryd.f25; rfl) (by unfold Tryd.f25; decide) (Nat.le_of_ble_eq_true (by unfold Tryd.f25; rfl)) (by kernel_rfl)]
  have c3 := fun D s => callA_trees (cfg := cfg0) (d := D) (s := s) (f := 52) (vs := [.int .i64 8, canA g z, canA g' z']) rfl (rlog_eq n d hn 8 (by decide) g g' z z' hlt hlt')
  simp only [zaa, zab, zac, zad, zae, zaf, zag, zah, zai, zaj, zak, zal, zam, zan, zao, zap, zaq, zar, zas, zat, zau, zav, zaw, zax, zay, zaz, zba, zbb, zbc, zbd, zbe, zbf, zbg, zbh, zbi, zbj, Nat.reduceBEq, Bool.or_self, Bool.or_false, Bool.or_true, Bool.and_true, Bool.and_false, Bool.true_and, Bool.false_and, Option.isNone_none, Option.isNone_some, Option.isSome_some, Option.isSome_none, zbk, zbl, zbm, zbn, zbo, zbp, zbq, zbr, zbs, zbt, zbu, zbv, zbw, zbx, zby, zbz, zca, zcb, zcc, zcd, zce, zcf, zcg, zch, zci, zcj, zck, zcl, zcm, zcn, zco, zcp, zcq, zcr, zcs, zct, zcu, zcv, zcw, zcx, zcy, zcz, zda, zdb, zdc, zdd, zde, zdf, Option.getD_some, Option.getD_none, zet, zeu, zev, zew, zex, zey, zez, zfa, Option.map_some, Option.map_none, Option.bind_some, List.map_cons, List.map_nil, List.cons_append, List.nil_append, ↓reduceIte, Nat.reduceEqDiff, Nat.reduceAdd, decide_true, decide_false, Bool.true_eq_false, Bool.false_eq_true, env0, List.getElem?_cons_zero, List.getElem?_cons_succ, zdg, zdh, zdi, zdj, zdk, zdl, zdm, zdn, ia22, ld31, zdo, zdp, zdq, zdr, zds, zdt, zdu, zdv, zdw, zdx, zdy, zdz, zea, zeb, zec, fa_0, fa_1, zed, bd_0, bd_2, zee, fd_1, zef, Nat.zero_add, st0_3', c1, c2, Int.reduceBEq, c3, madeF_eq, ext_0, ext_1, zeb]
  exact finish_ct _ _ 6 6 1 _ _ _ _ _ _ _ (by simp only [zfa, ↓reduceIte, Nat.reduceEqDiff]) (by simp only [zfa, ↓reduceIte, Nat.reduceEqDiff]) (by simp only [zfa, ↓reduceIte, Nat.reduceEqDiff]) rfl
theorem rop9_eq : evalFn Tryd.prog cfg0 n (d+6) 25 [.tree (.int .i64 9), .tree w, .tree w'] = some (.tree (madeF (shZ z z')), [[], [], []]) := by
  obtain ⟨g, c1⟩ := qRis n (d + 3) hw
  obtain ⟨g', c2⟩ := qRis n (d + 3) hw'
  have hlt := hw.lt
  have hlt' := hw'.lt
  obtain ⟨neg, g0, l, rfl, hl, hz⟩ := hw
  obtain ⟨neg', g0', l', rfl, hl', hz'⟩ := hw'
  rw [evalFn_go _ Tryd.func25 (by unfold Tryd.f25; rfl) (by unfold Tryd.f25; decide) (Nat.le_of_ble_eq_true (by unfold Tryd.f25; rfl)) (by kernel_rfl)]
  have c4 := fun D s => callA_trees (cfg := cfg0) (d := D) (s := s) (f := 53) (vs := [canA g' z']) rfl (far_eq n (d + 1) hn g' z' hlt')
  have e9 : ((9 : Int) == 9) = true := rfl
  have e10 : ((10 : Int) == 10) = true := rfl
  by_cases hs : z' < 0
  · have hc : clZ z' = -((min z'.natAbs 10001 : Nat) : Int) := by unfold clZ; (repeat' split) <;> omega
    have hc2 : clZ z' < 0 := by omega
    have hc3 : -clZ z' = ((min z'.natAbs 10001 : Nat) : Int) := by omega
    have un := un_negi (clZ z') (by omega) (by omega)
    rw [hc3] at un
    have c3 := fun D s => callA_trees (cfg := cfg0) (d := D) (s := s) (f := 54) (vs := [canA g z, .int .i64 ((min z'.natAbs 10001 : Nat) : Int), .bool false]) rfl (rdown_eq n d hn g z hlt z'.natAbs _ rfl)
    rw [show -((z'.natAbs : Nat) : Int) = z' by omega] at c3
    simp only [zaa, zab, zac, zad, zae, zaf, zag, zah, zai, zaj, zak, zal, zam, zan, zao, zap, zaq, zar, zas, zat, zau, zav, zaw, zax, zay, zaz, zba, zbb, zbc, zbd, zbe, zbf, zbg, zbh, zbi, zbj, Nat.reduceBEq, Bool.or_self, Bool.or_false, Bool.or_true, Bool.and_true, Bool.and_false, Bool.true_and, Bool.false_and, Option.isNone_none, Option.isNone_some, Option.isSome_some, Option.isSome_none, zbk, zbl, zbm, zbn, zbo, zbp, zbq, zbr, zbs, zbt, zbu, zbv, zbw, zbx, zby, zbz, zca, zcb, zcc, zcd, zce, zcf, zcg, zch, zci, zcj, zck, zcl, zcm, zcn, zco, zcp, zcq, zcr, zcs, zct, zcu, zcv, zcw, zcx, zcy, zcz, zda, zdb, zdc, zdd, zde, zdf, Option.getD_some, Option.getD_none, zet, zeu, zev, zew, zex, zey, zez, zfa, Option.map_some, Option.map_none, Option.bind_some, List.map_cons, List.map_nil, List.cons_append, List.nil_append, ↓reduceIte, Nat.reduceEqDiff, Nat.reduceAdd, decide_true, decide_false, Bool.true_eq_false, Bool.false_eq_true, env0, List.getElem?_cons_zero, List.getElem?_cons_succ, zdg, zdh, zdi, zdj, zdk, zdl, zdm, zdn, ia22, ld31, zdo, zdp, zdq, zdr, zds, zdt, zdu, zdv, zdw, zdx, zdy, zdz, zea, zeb, zec, fa_0, fa_1, zed, bd_0, bd_2, zee, fd_1, zef, Nat.zero_add, st0_3', c1, c2, Int.reduceBEq, c4, hc2, un, c3, madeF_eq, ext_0, ext_1, zeb]
    exact finish_ct _ _ 6 6 1 _ _ _ _ _ _ _ (by simp only [zfa, ↓reduceIte, Nat.reduceEqDiff]) (by simp only [zfa, ↓reduceIte, Nat.reduceEqDiff]) (by simp only [zfa, ↓reduceIte, Nat.reduceEqDiff]) rfl
  · have hc : clZ z' = ((min z'.natAbs 10001 : Nat) : Int) := by unfold clZ; (repeat' split) <;> omega
    have hc2 : ¬ clZ z' < 0 := by omega
    have c3 := fun D s => callA_trees (cfg := cfg0) (d := D) (s := s) (f := 54) (vs := [canA g z, .int .i64 ((min z'.natAbs 10001 : Nat) : Int), .bool true]) rfl (rup_eq n d hn g z hlt z'.natAbs _ rfl)
    rw [show ((z'.natAbs : Nat) : Int) = z' by omega, ← hc] at c3
    simp only [zaa, zab, zac, zad, zae, zaf, zag, zah, zai, zaj, zak, zal, zam, zan, zao, zap, zaq, zar, zas, zat, zau, zav, zaw, zax, zay, zaz, zba, zbb, zbc, zbd, zbe, zbf, zbg, zbh, zbi, zbj, Nat.reduceBEq, Bool.or_self, Bool.or_false, Bool.or_true, Bool.and_true, Bool.and_false, Bool.true_and, Bool.false_and, Option.isNone_none, Option.isNone_some, Option.isSome_some, Option.isSome_none, zbk, zbl, zbm, zbn, zbo, zbp, zbq, zbr, zbs, zbt, zbu, zbv, zbw, zbx, zby, zbz, zca, zcb, zcc, zcd, zce, zcf, zcg, zch, zci, zcj, zck, zcl, zcm, zcn, zco, zcp, zcq, zcr, zcs, zct, zcu, zcv, zcw, zcx, zcy, zcz, zda, zdb, zdc, zdd, zde, zdf, Option.getD_some, Option.getD_none, zet, zeu, zev, zew, zex, zey, zez, zfa, Option.map_some, Option.map_none, Option.bind_some, List.map_cons, List.map_nil, List.cons_append, List.nil_append, ↓reduceIte, Nat.reduceEqDiff, Nat.reduceAdd, decide_true, decide_false, Bool.true_eq_false, Bool.false_eq_true, env0, List.getElem?_cons_zero, List.getElem?_cons_succ, zdg, zdh, zdi, zdj, zdk, zdl, zdm, zdn, ia22, ld31, zdo, zdp, zdq, zdr, zds, zdt, zdu, zdv, zdw, zdx, zdy, zdz, zea, zeb, zec, fa_0, fa_1, zed, bd_0, bd_2, zee, fd_1, zef, Nat.zero_add, st0_3', c1, c2, Int.reduceBEq, c4, hc2, c3, madeF_eq, ext_0, ext_1, zeb]
    exact finish_ct _ _ 6 6 1 _ _ _ _ _ _ _ (by simp only [zfa, ↓reduceIte, Nat.reduceEqDiff]) (by simp only [zfa, ↓reduceIte, Nat.reduceEqDiff]) (by simp only [zfa, ↓reduceIte, Nat.reduceEqDiff]) rfl
theorem rop10_eq : evalFn Tryd.prog cfg0 n (d+6) 25 [.tree (.int .i64 10), .tree w, .tree w'] = some (.tree (madeF (shZ z (-z'))), [[], [], []]) := by
  obtain ⟨g, c1⟩ := qRis n (d + 3) hw
  obtain ⟨g', c2⟩ := qRis n (d + 3) hw'
  have hlt := hw.lt
  have hlt' := hw'.lt
  obtain ⟨neg, g0, l, rfl, hl, hz⟩ := hw
  obtain ⟨neg', g0', l', rfl, hl', hz'⟩ := hw'
  rw [evalFn_go _ Tryd.func25 (by unfold Tryd.f25; rfl) (by unfold Tryd.f25; decide) (Nat.le_of_ble_eq_true (by unfold Tryd.f25; rfl)) (by kernel_rfl)]
  have c4 := fun D s => callA_trees (cfg := cfg0) (d := D) (s := s) (f := 53) (vs := [canA g' z']) rfl (far_eq n (d + 1) hn g' z' hlt')
  have e9 : ((9 : Int) == 9) = true := rfl
  have e10 : ((10 : Int) == 10) = true := rfl
  by_cases hs : z' < 0
  · have hc : clZ z' = -((min z'.natAbs 10001 : Nat) : Int) := by unfold clZ; (repeat' split) <;> omega
    have hc2 : clZ z' < 0 := by omega
    have hc3 : -clZ z' = ((min z'.natAbs 10001 : Nat) : Int) := by omega
    have un := un_negi (clZ z') (by omega) (by omega)
    rw [hc3] at un
    have c3 := fun D s => callA_trees (cfg := cfg0) (d := D) (s := s) (f := 54) (vs := [canA g z, .int .i64 ((min z'.natAbs 10001 : Nat) : Int), .bool true]) rfl (rup_eq n d hn g z hlt z'.natAbs _ rfl)
    rw [show ((z'.natAbs : Nat) : Int) = -z' by omega] at c3
    simp only [zaa, zab, zac, zad, zae, zaf, zag, zah, zai, zaj, zak, zal, zam, zan, zao, zap, zaq, zar, zas, zat, zau, zav, zaw, zax, zay, zaz, zba, zbb, zbc, zbd, zbe, zbf, zbg, zbh, zbi, zbj, Nat.reduceBEq, Bool.or_self, Bool.or_false, Bool.or_true, Bool.and_true, Bool.and_false, Bool.true_and, Bool.false_and, Option.isNone_none, Option.isNone_some, Option.isSome_some, Option.isSome_none, zbk, zbl, zbm, zbn, zbo, zbp, zbq, zbr, zbs, zbt, zbu, zbv, zbw, zbx, zby, zbz, zca, zcb, zcc, zcd, zce, zcf, zcg, zch, zci, zcj, zck, zcl, zcm, zcn, zco, zcp, zcq, zcr, zcs, zct, zcu, zcv, zcw, zcx, zcy, zcz, zda, zdb, zdc, zdd, zde, zdf, Option.getD_some, Option.getD_none, zet, zeu, zev, zew, zex, zey, zez, zfa, Option.map_some, Option.map_none, Option.bind_some, List.map_cons, List.map_nil, List.cons_append, List.nil_append, ↓reduceIte, Nat.reduceEqDiff, Nat.reduceAdd, decide_true, decide_false, Bool.true_eq_false, Bool.false_eq_true, env0, List.getElem?_cons_zero, List.getElem?_cons_succ, zdg, zdh, zdi, zdj, zdk, zdl, zdm, zdn, ia22, ld31, zdo, zdp, zdq, zdr, zds, zdt, zdu, zdv, zdw, zdx, zdy, zdz, zea, zeb, zec, fa_0, fa_1, zed, bd_0, bd_2, zee, fd_1, zef, Nat.zero_add, st0_3', c1, c2, Int.reduceBEq, c4, hc2, un, c3, madeF_eq, ext_0, ext_1, zeb]
    exact finish_ct _ _ 6 6 1 _ _ _ _ _ _ _ (by simp only [zfa, ↓reduceIte, Nat.reduceEqDiff]) (by simp only [zfa, ↓reduceIte, Nat.reduceEqDiff]) (by simp only [zfa, ↓reduceIte, Nat.reduceEqDiff]) rfl
  · have hc : clZ z' = ((min z'.natAbs 10001 : Nat) : Int) := by unfold clZ; (repeat' split) <;> omega
    have hc2 : ¬ clZ z' < 0 := by omega
    have c3 := fun D s => callA_trees (cfg := cfg0) (d := D) (s := s) (f := 54) (vs := [canA g z, .int .i64 ((min z'.natAbs 10001 : Nat) : Int), .bool false]) rfl (rdown_eq n d hn g z hlt z'.natAbs _ rfl)
    rw [show -((z'.natAbs : Nat) : Int) = -z' by omega, ← hc] at c3
    simp only [zaa, zab, zac, zad, zae, zaf, zag, zah, zai, zaj, zak, zal, zam, zan, zao, zap, zaq, zar, zas, zat, zau, zav, zaw, zax, zay, zaz, zba, zbb, zbc, zbd, zbe, zbf, zbg, zbh, zbi, zbj, Nat.reduceBEq, Bool.or_self, Bool.or_false, Bool.or_true, Bool.and_true, Bool.and_false, Bool.true_and, Bool.false_and, Option.isNone_none, Option.isNone_some, Option.isSome_some, Option.isSome_none, zbk, zbl, zbm, zbn, zbo, zbp, zbq, zbr, zbs, zbt, zbu, zbv, zbw, zbx, zby, zbz, zca, zcb, zcc, zcd, zce, zcf, zcg, zch, zci, zcj, zck, zcl, zcm, zcn, zco, zcp, zcq, zcr, zcs, zct, zcu, zcv, zcw, zcx, zcy, zcz, zda, zdb, zdc, zdd, zde, zdf, Option.getD_some, Option.getD_none, zet, zeu, zev, zew, zex, zey, zez, zfa, Option.map_some, Option.map_none, Option.bind_some, List.map_cons, List.map_nil, List.cons_append, List.nil_append, ↓reduceIte, Nat.reduceEqDiff, Nat.reduceAdd, decide_true, decide_false, Bool.true_eq_false, Bool.false_eq_true, env0, List.getElem?_cons_zero, List.getElem?_cons_succ, zdg, zdh, zdi, zdj, zdk, zdl, zdm, zdn, ia22, ld31, zdo, zdp, zdq, zdr, zds, zdt, zdu, zdv, zdw, zdx, zdy, zdz, zea, zeb, zec, fa_0, fa_1, zed, bd_0, bd_2, zee, fd_1, zef, Nat.zero_add, st0_3', c1, c2, Int.reduceBEq, c4, hc2, c3, madeF_eq, ext_0, ext_1, zeb]
    exact finish_ct _ _ 6 6 1 _ _ _ _ _ _ _ (by simp only [zfa, ↓reduceIte, Nat.reduceEqDiff]) (by simp only [zfa, ↓reduceIte, Nat.reduceEqDiff]) (by simp only [zfa, ↓reduceIte, Nat.reduceEqDiff]) rfl
omit hn in
theorem rop_none (op : Int) (ho : op < 1 ∨ 10 < op) : evalFn Tryd.prog cfg0 n (d+6) 25 [.tree (.int .i64 op), .tree w, .tree w'] = some (.tree (.tup [encA false .n [], .bool false]), [[], [], []]) := by
  obtain ⟨g, c1⟩ := qRis n (d + 3) hw
  obtain ⟨g', c2⟩ := qRis n (d + 3) hw'
  have hlt := hw.lt
  have hlt' := hw'.lt
  obtain ⟨neg, g0, l, rfl, hl, hz⟩ := hw
  obtain ⟨neg', g0', l', rfl, hl', hz'⟩ := hw'
  rw [evalFn_go _ Tryd.func25 (by unfold Tryd.f25; rfl) (by unfold Tryd.f25; decide) (Nat.le_of_ble_eq_true (by unfold Tryd.f25; rfl)) (by kernel_rfl)]
  have e1 : (op == 1) = false := by rw [beq_eq_false_iff_ne]; omega
  have e2 : (op == 2) = false := by rw [beq_eq_false_iff_ne]; omega
  have e3 : (op == 3) = false := by rw [beq_eq_false_iff_ne]; omega
  have e4 : (op == 4) = false := by rw [beq_eq_false_iff_ne]; omega
  have e5 : (op == 5) = false := by rw [beq_eq_false_iff_ne]; omega
  have e6 : (op == 6) = false := by rw [beq_eq_false_iff_ne]; omega
  have e7 : (op == 7) = false := by rw [beq_eq_false_iff_ne]; omega
  have e8 : (op == 8) = false := by rw [beq_eq_false_iff_ne]; omega
  have e9 : (op == 9) = false := by rw [beq_eq_false_iff_ne]; omega
  have e10 : (op == 10) = false := by rw [beq_eq_false_iff_ne]; omega
  simp only [zaa, zab, zac, zad, zae, zaf, zag, zah, zai, zaj, zak, zal, zam, zan, zao, zap, zaq, zar, zas, zat, zau, zav, zaw, zax, zay, zaz, zba, zbb, zbc, zbd, zbe, zbf, zbg, zbh, zbi, zbj, Nat.reduceBEq, Bool.or_self, Bool.or_false, Bool.or_true, Bool.and_true, Bool.and_false, Bool.true_and, Bool.false_and, Option.isNone_none, Option.isNone_some, Option.isSome_some, Option.isSome_none, zbk, zbl, zbm, zbn, zbo, zbp, zbq, zbr, zbs, zbt, zbu, zbv, zbw, zbx, zby, zbz, zca, zcb, zcc, zcd, zce, zcf, zcg, zch, zci, zcj, zck, zcl, zcm, zcn, zco, zcp, zcq, zcr, zcs, zct, zcu, zcv, zcw, zcx, zcy, zcz, zda, zdb, zdc, zdd, zde, zdf, Option.getD_some, Option.getD_none, zet, zeu, zev, zew, zex, zey, zez, zfa, Option.map_some, Option.map_none, Option.bind_some, List.map_cons, List.map_nil, List.cons_append, List.nil_append, ↓reduceIte, Nat.reduceEqDiff, Nat.reduceAdd, decide_true, decide_false, Bool.true_eq_false, Bool.false_eq_true, env0, List.getElem?_cons_zero, List.getElem?_cons_succ, zdg, zdh, zdi, zdj, zdk, zdl, zdm, zdn, ia22, ld31, zdo, zdp, zdq, zdr, zds, zdt, zdu, zdv, zdw, zdx, zdy, zdz, zea, zeb, zec, fa_0, fa_1, zed, bd_0, bd_2, zee, fd_1, zef, Nat.zero_add, st0_3', c1, c2, e1, e2, e3, e4, e5, e6, e7, e8, e9, e10]
  exact finish_ct _ _ 6 6 1 _ _ _ _ _ _ _ (by simp only [zfa, ↓reduceIte, Nat.reduceEqDiff]) (by simp only [zfa, ↓reduceIte, Nat.reduceEqDiff]) (by simp only [zfa, ↓reduceIte, Nat.reduceEqDiff]) rfl
end
end Go.Ab
