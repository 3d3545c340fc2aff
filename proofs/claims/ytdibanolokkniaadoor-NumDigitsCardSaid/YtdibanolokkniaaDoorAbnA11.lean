/- The statement NumRooms, abstractly. Conditions: an int. -/
import Derived.Test.YtdibanolokkniaaDoorAbnA9
import Derived.Test.YtdibanolokkniaaDoorAbnA10
namespace Go.Ab
open Go.Proofs
set_option maxRecDepth 100000
set_option linter.unusedSimpArgs false

/-- A power of two, with a sign. -/
def pw (neg : Bool) (K : Nat) : Int := sgn neg (2 ^ K)
theorem pw_abs (neg : Bool) (K : Nat) : (pw neg K).natAbs = 2 ^ K := sgn_abs _ _
theorem pw_fit (neg : Bool) (K : Nat) (h : K < 384) : (pw neg K).natAbs < B ^ 12 := by
  rw [pw_abs]; exact lt_B 12 K (by omega)
theorem pw_big (neg : Bool) (K : Nat) (h : 384 ≤ K) : ¬ (pw neg K).natAbs < B ^ 12 := by
  rw [pw_abs]
  exact Nat.not_lt.mpr (B_le 12 K (by omega))
theorem pw_lt0 (neg : Bool) (K : Nat) : decide (pw neg K < 0) = neg := by
  unfold pw
  rw [sgn_neg]
  have : 2 ^ K ≠ 0 := by have := Nat.two_pow_pos K; omega
  rw [decide_eq_true this, Bool.and_true]
theorem pw_up (neg : Bool) (K m : Nat) : shZ (pw neg K) (m : Int) = pw neg (K + m) := by
  rw [← up_sgn, pw_lt0, pw_abs, pw, Nat.pow_add]
theorem pw_down (neg : Bool) (K m : Nat) : shZ (pw neg (K + m)) (-(m : Int)) = pw neg K := by
  have hp := Nat.two_pow_pos m
  cases neg with
  | true =>
    have h : pw true (K + m) < 0 := of_decide_eq_true (pw_lt0 true (K + m))
    rw [← down_neg _ m h, pw_abs, Nat.pow_add]
    have e : (2 ^ K * 2 ^ m - 1) / 2 ^ m + 1 = 2 ^ K := by
      obtain ⟨x, hx⟩ : ∃ x, 2 ^ K = x + 1 := ⟨2 ^ K - 1, by have := Nat.two_pow_pos K; omega⟩
      rw [hx]
      generalize 2 ^ m = p at *
      have h1 : (x + 1) * p - 1 = (p - 1) + x * p := by rw [Nat.add_mul, Nat.one_mul]; omega
      rw [h1, Nat.add_mul_div_right _ _ hp, Nat.div_eq_of_lt (by omega)]; omega
    rw [e]; rfl
  | false =>
    have h : ¬ pw false (K + m) < 0 := of_decide_eq_false (pw_lt0 false (K + m))
    rw [← down_pos _ m h, pw_abs, Nat.pow_add, Nat.mul_div_cancel _ hp]; rfl
theorem pw_neg (K : Nat) : -(pw false K) = pw true K := by simp [pw, sgn]
theorem cmpI_self (a : Int) : cmpI a a = 0 := by unfold cmpI; rw [if_neg (by omega), if_neg (by omega)]
theorem blen_pow (K : Nat) : blen (2 ^ K) = K + 1 := blen_of _ K (Nat.le_refl _) (Nat.pow_lt_pow_right (by decide) (by omega))
set_option maxHeartbeats 8000000 in
theorem rooms_eq (z : Int) (neg : Bool) : evalFn Tryd.prog cfg0 100000 13 8 [.tree (.int .i64 z), .tree (.bool neg)] = some (.tree (.bool true), [[], []]) := by
  rw [evalFn_go _ Tryd.func8 (by unfold Tryd.f8; rfl) (by unfold Tryd.f8; decide) (Nat.le_of_ble_eq_true (by unfold Tryd.f8; rfl)) (by kernel_rfl)]
  have w := cAwakeN
  have hp := place_range z 384 (by decide)
  have c0 := fun D s => cPlace 100000 11 z 384 (by decide) (by decide) D s
  obtain ⟨K, hK⟩ : ∃ K : Nat, placeN z 384 = (K : Int) := ⟨(placeN z 384).toNat, by omega⟩
  rw [hK] at c0 hp
  have hK4 : K < 384 := by omega
  have o1 := fun D s => cOf64 100000 9 (Nat.le_refl _) 1 (by decide) (by decide) D s
  have oK := fun D s => cOf64 100000 9 (Nat.le_refl _) (K : Int) (by omega) (by omega) D s
  have n1 : IsN (encZ 1) 1 := isN_Z 1 (Nat.one_lt_pow (by decide) (by decide))
  have nk : ∀ m : Nat, m ≤ 384 → IsN (encZ (m : Int)) (m : Int) := fun m hm => isN_Z _ (by
    rw [Int.natAbs_natCast]
    have := B12_big; omega)
  have p0 := fun D s => callA_trees (cfg := cfg0) (d := D) (s := s) (vs := [.int .i64 9, encZ 1, encZ (K : Int)]) rfl (op9_eq 100000 6 (Nat.le_refl _) n1 (nk K (by omega)))
  have e1 : shZ 1 (K : Int) = pw false K := by
    have := pw_up false 0 K
    rw [Nat.zero_add] at this
    exact this
  rw [e1, madeV_fit (pw_fit false K hK4)] at p0
  have s1 := i_sub Tryd.prog 3 384 (K : Int) (by omega) (by omega)
  rw [show (384 : Int) - (K : Int) = ((384 - K : Nat) : Int) by omega] at s1
  have s2 := i_sub Tryd.prog 3 383 (K : Int) (by omega) (by omega)
  rw [show (383 : Int) - (K : Int) = ((383 - K : Nat) : Int) by omega] at s2
  have q1 := qOf64 100000 9 (Nat.le_refl _) ((384 - K : Nat) : Int) (by omega) (by omega)
  have q2 := qOf64 100000 9 (Nat.le_refl _) ((383 - K : Nat) : Int) (by omega) (by omega)
  have a1 := i_add Tryd.prog 3 (K : Int) 1 (by omega) (by omega)
  have hx : ∀ b, IsN (encZ (pw b K)) (pw b K) := fun b => isN_Z _ (pw_fit b K hK4)
  have hy : ∀ b, IsN (encZ (pw b 383)) (pw b 383) := fun b => isN_Z _ (pw_fit b 383 (by decide))
  have u1 := fun b => callQ_trees (f := 14) (vs := [.int .i64 9, encZ (pw b K), encZ ((384 - K : Nat) : Int)]) rfl (op9_eq 100000 6 (Nat.le_refl _) (hx b) (nk (384 - K) (by omega)))
  have u2 := fun b => callQ_trees (f := 14) (vs := [.int .i64 9, encZ (pw b K), encZ ((383 - K : Nat) : Int)]) rfl (op9_eq 100000 6 (Nat.le_refl _) (hx b) (nk (383 - K) (by omega)))
  have u3 := fun b => callQ_trees (f := 14) (vs := [.int .i64 10, encZ (pw b 383), encZ ((383 - K : Nat) : Int)]) rfl (op10_eq 100000 6 (Nat.le_refl _) (hy b) (nk (383 - K) (by omega)))
  have v1 : ∀ b, madeV (shZ (pw b K) ((384 - K : Nat) : Int)) = .tup [encZ 0, .bool false] := fun b => by
    rw [pw_up, madeV, mkZ_not (pw_big b _ (by omega))]
  have v2 : ∀ b, madeV (shZ (pw b K) ((383 - K : Nat) : Int)) = .tup [encZ (pw b 383), .bool true] := fun b => by
    rw [pw_up, show K + (383 - K) = 383 by omega, madeV_fit (pw_fit b 383 (by decide))]
  have v3 : ∀ b, madeV (shZ (pw b 383) (-((383 - K : Nat) : Int))) = .tup [encZ (pw b K), .bool true] := fun b => by
    have := pw_down b K (383 - K)
    rw [show K + (383 - K) = 383 by omega] at this
    rw [this, madeV_fit (pw_fit b K hK4)]
  simp only [v1] at u1
  simp only [v2] at u2
  simp only [v3] at u3
  have w1 := fun b D s => cNcmp 100000 8 (Nat.le_refl _) (hx b) (hx b) D s
  simp only [cmpI_self] at w1
  have w2 := fun b D s => cBits 100000 9 (Nat.le_refl _) (hy b) D s
  simp only [pw_abs, blen_pow] at w2
  have w3 := fun b D s => cBits 100000 9 (Nat.le_refl _) (hx b) D s
  simp only [pw_abs, blen_pow] at w3
  have p1 : ((0 : Int) == 0) = true := rfl
  have p2 : (((383 + 1 : Nat) : Int) == 384) = true := rfl
  have p3 : (((K + 1 : Nat) : Int) == (K : Int) + 1) = true := by rw [beq_iff_eq]; omega
  have cn := fun D s => cNeg 100000 9 (Nat.le_refl _) (hx false) D s
  rw [pw_neg] at cn
  cases neg with
  | false =>
    simp only [zaa, zab, zac, zad, zae, zaf, zag, zah, zai, zaj, zak, zal, zam, zan, zao, zap, zaq, zar, zas, zat, zau, zav, zaw, zax, zay, zaz, zba, zbb, zbc, zbd, zbe, zbf, zbg, zbh, zbi, zbj, Nat.reduceBEq, Bool.or_self, Bool.or_false, Bool.or_true, Bool.and_true, Bool.and_false, Bool.true_and, Bool.false_and, Option.isNone_none, Option.isNone_some, Option.isSome_some, Option.isSome_none, zbk, zbl, zbm, zbn, zbo, zbp, zbq, zbr, zbs, zbt, zbu, zbv, zbw, zbx, zby, zbz, zca, zcb, zcc, zcd, zce, zcf, zcg, zch, zci, zcj, zck, zcl, zcm, zcn, zco, zcp, zcq, zcr, zcs, zct, zcu, zcv, zcw, zcx, zcy, zcz, zda, zdb, zdc, zdd, zde, zdf, Option.getD_some, Option.getD_none, zet, zeu, zev, zew, zex, zey, zez, zfa, Option.map_some, Option.map_none, Option.bind_some, List.map_cons, List.map_nil, List.cons_append, List.nil_append, ↓reduceIte, Nat.reduceEqDiff, Nat.reduceAdd, decide_true, decide_false, Bool.true_eq_false, Bool.false_eq_true, env0, List.getElem?_cons_zero, List.getElem?_cons_succ, zdg, zdh, zdi, zdj, zdk, zdl, zdm, zdn, ia22, ld31, zdo, zdp, zdq, zdr, zds, zdt, zdu, zdv, zdw, zdx, zdy, zdz, zea, zeb, zec, fa_0, fa_1, zed, bd_0, bd_2, zee, fd_1, zef, Nat.zero_add, st0_2, c0, o1, oK, p0, ext_0, ext_1, st_Z, s1, s2, q1, q2, encZ_fold]
    refine forgetS (fun s => (callQ (evalFn Tryd.prog cfg0 100000 12) 14 [.int .i64 9, encZ (pw false K), encZ ((384 - K : Nat) : Int)]).map (·, s)) (fun env s => env 5 = .int .i64 (K : Int) ∧ env 6 = .ptr 6 1 0 ∧ env 7 = .bool true ∧ s 6 = ⟨1, .buf [.bool (decide (pw false K < 0)), encR (pw false K).natAbs]⟩ ∧ (s 8).t = 0 ∧ (s 10).t = 0 ∧ (s 12).t = 0) ⟨by simp only [zfa, ↓reduceIte, Nat.reduceEqDiff], by simp only [zfa, ↓reduceIte, Nat.reduceEqDiff], by simp only [zfa, ↓reduceIte, Nat.reduceEqDiff], by simp only [zfa, ↓reduceIte, Nat.reduceEqDiff], by simp only [zfa, ↓reduceIte, Nat.reduceEqDiff, zdw], by simp only [zfa, ↓reduceIte, Nat.reduceEqDiff, zdw], by simp only [zfa, ↓reduceIte, Nat.reduceEqDiff, zdw]⟩ ?_
    clear c0 o1 oK p0 cn
    intro env s ⟨e5, e6, e7, j6, t8, t10, t12⟩
    simp only [zaa, zab, zac, zad, zae, zaf, zag, zah, zai, zaj, zak, zal, zam, zan, zao, zap, zaq, zar, zas, zat, zau, zav, zaw, zax, zay, zaz, zba, zbb, zbc, zbd, zbe, zbf, zbg, zbh, zbi, zbj, Nat.reduceBEq, Bool.or_self, Bool.or_false, Bool.or_true, Bool.and_true, Bool.and_false, Bool.true_and, Bool.false_and, Option.isNone_none, Option.isNone_some, Option.isSome_some, Option.isSome_none, zbk, zbl, zbm, zbn, zbo, zbp, zbq, zbr, zbs, zbt, zbu, zbv, zbw, zbx, zby, zbz, zca, zcb, zcc, zcd, zce, zcf, zcg, zch, zci, zcj, zck, zcl, zcm, zcn, zco, zcp, zcq, zcr, zcs, zct, zcu, zcv, zcw, zcx, zcy, zcz, zda, zdb, zdc, zdd, zde, zdf, Option.getD_some, Option.getD_none, zet, zeu, zev, zew, zex, zey, zez, zfa, Option.map_some, Option.map_none, Option.bind_some, List.map_cons, List.map_nil, List.cons_append, List.nil_append, ↓reduceIte, Nat.reduceEqDiff, Nat.reduceAdd, decide_true, decide_false, Bool.true_eq_false, Bool.false_eq_true, env0, List.getElem?_cons_zero, List.getElem?_cons_succ, zdg, zdh, zdi, zdj, zdk, zdl, zdm, zdn, ia22, ld31, zdo, zdp, zdq, zdr, zds, zdt, zdu, zdv, zdw, zdx, zdy, zdz, zea, zeb, zec, fa_0, fa_1, zed, bd_0, bd_2, zee, fd_1, zef, Nat.zero_add, e5, e6, e7, j6, t8, t10, t12, ext_0, ext_1, st_Z, encZ_fold, s1, s2, q1, q2, u1, u2]
    refine forgetS (fun s => (callQ (evalFn Tryd.prog cfg0 100000 12) 14 [.int .i64 10, encZ (pw false 383), encZ ((383 - K : Nat) : Int)]).map (·, s)) (fun env s => env 5 = .int .i64 (K : Int) ∧ env 6 = .ptr 6 1 0 ∧ env 7 = .bool true ∧ env 9 = .bool false ∧ env 10 = .ptr 10 1 0 ∧ env 11 = .bool true ∧ s 6 = ⟨1, .buf [.bool (decide (pw false K < 0)), encR (pw false K).natAbs]⟩ ∧ s 10 = ⟨1, .buf [.bool (decide (pw false 383 < 0)), encR (pw false 383).natAbs]⟩ ∧ (s 12).t = 0) ⟨by simp only [zfa, ↓reduceIte, Nat.reduceEqDiff, e5], by simp only [zfa, ↓reduceIte, Nat.reduceEqDiff, e6], by simp only [zfa, ↓reduceIte, Nat.reduceEqDiff, e7], by simp only [zfa, ↓reduceIte, Nat.reduceEqDiff], by simp only [zfa, ↓reduceIte, Nat.reduceEqDiff], by simp only [zfa, ↓reduceIte, Nat.reduceEqDiff], by simp only [zfa, ↓reduceIte, Nat.reduceEqDiff, j6], by simp only [zfa, ↓reduceIte, Nat.reduceEqDiff], by simp only [zfa, ↓reduceIte, Nat.reduceEqDiff, t12]⟩ ?_
    clear e5 e6 e7 j6 t8 t10 t12
    intro env s ⟨e5, e6, e7, e9, e10, e11, j6, j10, t12⟩
    simp only [zaa, zab, zac, zad, zae, zaf, zag, zah, zai, zaj, zak, zal, zam, zan, zao, zap, zaq, zar, zas, zat, zau, zav, zaw, zax, zay, zaz, zba, zbb, zbc, zbd, zbe, zbf, zbg, zbh, zbi, zbj, Nat.reduceBEq, Bool.or_self, Bool.or_false, Bool.or_true, Bool.and_true, Bool.and_false, Bool.true_and, Bool.false_and, Option.isNone_none, Option.isNone_some, Option.isSome_some, Option.isSome_none, zbk, zbl, zbm, zbn, zbo, zbp, zbq, zbr, zbs, zbt, zbu, zbv, zbw, zbx, zby, zbz, zca, zcb, zcc, zcd, zce, zcf, zcg, zch, zci, zcj, zck, zcl, zcm, zcn, zco, zcp, zcq, zcr, zcs, zct, zcu, zcv, zcw, zcx, zcy, zcz, zda, zdb, zdc, zdd, zde, zdf, Option.getD_some, Option.getD_none, zet, zeu, zev, zew, zex, zey, zez, zfa, Option.map_some, Option.map_none, Option.bind_some, List.map_cons, List.map_nil, List.cons_append, List.nil_append, ↓reduceIte, Nat.reduceEqDiff, Nat.reduceAdd, decide_true, decide_false, Bool.true_eq_false, Bool.false_eq_true, env0, List.getElem?_cons_zero, List.getElem?_cons_succ, zdg, zdh, zdi, zdj, zdk, zdl, zdm, zdn, ia22, ld31, zdo, zdp, zdq, zdr, zds, zdt, zdu, zdv, zdw, zdx, zdy, zdz, zea, zeb, zec, fa_0, fa_1, zed, bd_0, bd_2, zee, fd_1, zef, Nat.zero_add, e5, e6, e7, e9, e10, e11, j6, j10, t12, ext_0, ext_1, st_Z, encZ_fold, u3, unA_not', Bool.not_false, w1, w2, w3, p1, p2, p3, a1, w]
    exact finish_b _ _ _ _ _ _ _ (by simp only [zfa, ↓reduceIte]) rfl
  | true =>
    simp only [zaa, zab, zac, zad, zae, zaf, zag, zah, zai, zaj, zak, zal, zam, zan, zao, zap, zaq, zar, zas, zat, zau, zav, zaw, zax, zay, zaz, zba, zbb, zbc, zbd, zbe, zbf, zbg, zbh, zbi, zbj, Nat.reduceBEq, Bool.or_self, Bool.or_false, Bool.or_true, Bool.and_true, Bool.and_false, Bool.true_and, Bool.false_and, Option.isNone_none, Option.isNone_some, Option.isSome_some, Option.isSome_none, zbk, zbl, zbm, zbn, zbo, zbp, zbq, zbr, zbs, zbt, zbu, zbv, zbw, zbx, zby, zbz, zca, zcb, zcc, zcd, zce, zcf, zcg, zch, zci, zcj, zck, zcl, zcm, zcn, zco, zcp, zcq, zcr, zcs, zct, zcu, zcv, zcw, zcx, zcy, zcz, zda, zdb, zdc, zdd, zde, zdf, Option.getD_some, Option.getD_none, zet, zeu, zev, zew, zex, zey, zez, zfa, Option.map_some, Option.map_none, Option.bind_some, List.map_cons, List.map_nil, List.cons_append, List.nil_append, ↓reduceIte, Nat.reduceEqDiff, Nat.reduceAdd, decide_true, decide_false, Bool.true_eq_false, Bool.false_eq_true, env0, List.getElem?_cons_zero, List.getElem?_cons_succ, zdg, zdh, zdi, zdj, zdk, zdl, zdm, zdn, ia22, ld31, zdo, zdp, zdq, zdr, zds, zdt, zdu, zdv, zdw, zdx, zdy, zdz, zea, zeb, zec, fa_0, fa_1, zed, bd_0, bd_2, zee, fd_1, zef, Nat.zero_add, st0_2, c0, o1, oK, p0, ext_0, ext_1, st_Z, s1, s2, q1, q2, encZ_fold, cn]
    refine forgetS (fun s => (callQ (evalFn Tryd.prog cfg0 100000 12) 14 [.int .i64 9, encZ (pw true K), encZ ((384 - K : Nat) : Int)]).map (·, s)) (fun env s => env 5 = .int .i64 (K : Int) ∧ env 6 = .ptr 6 1 0 ∧ env 7 = .bool true ∧ s 6 = ⟨1, .buf [.bool (decide (pw true K < 0)), encR (pw true K).natAbs]⟩ ∧ (s 8).t = 0 ∧ (s 10).t = 0 ∧ (s 12).t = 0) ⟨by simp only [zfa, ↓reduceIte, Nat.reduceEqDiff], by simp only [zfa, ↓reduceIte, Nat.reduceEqDiff], by simp only [zfa, ↓reduceIte, Nat.reduceEqDiff], by simp only [zfa, ↓reduceIte, Nat.reduceEqDiff], by simp only [zfa, ↓reduceIte, Nat.reduceEqDiff, zdw], by simp only [zfa, ↓reduceIte, Nat.reduceEqDiff, zdw], by simp only [zfa, ↓reduceIte, Nat.reduceEqDiff, zdw]⟩ ?_
    clear c0 o1 oK p0 cn
    intro env s ⟨e5, e6, e7, j6, t8, t10, t12⟩
    simp only [zaa, zab, zac, zad, zae, zaf, zag, zah, zai, zaj, zak, zal, zam, zan, zao, zap, zaq, zar, zas, zat, zau, zav, zaw, zax, zay, zaz, zba, zbb, zbc, zbd, zbe, zbf, zbg, zbh, zbi, zbj, Nat.reduceBEq, Bool.or_self, Bool.or_false, Bool.or_true, Bool.and_true, Bool.and_false, Bool.true_and, Bool.false_and, Option.isNone_none, Option.isNone_some, Option.isSome_some, Option.isSome_none, zbk, zbl, zbm, zbn, zbo, zbp, zbq, zbr, zbs, zbt, zbu, zbv, zbw, zbx, zby, zbz, zca, zcb, zcc, zcd, zce, zcf, zcg, zch, zci, zcj, zck, zcl, zcm, zcn, zco, zcp, zcq, zcr, zcs, zct, zcu, zcv, zcw, zcx, zcy, zcz, zda, zdb, zdc, zdd, zde, zdf, Option.getD_some, Option.getD_none, zet, zeu, zev, zew, zex, zey, zez, zfa, Option.map_some, Option.map_none, Option.bind_some, List.map_cons, List.map_nil, List.cons_append, List.nil_append, ↓reduceIte, Nat.reduceEqDiff, Nat.reduceAdd, decide_true, decide_false, Bool.true_eq_false, Bool.false_eq_true, env0, List.getElem?_cons_zero, List.getElem?_cons_succ, zdg, zdh, zdi, zdj, zdk, zdl, zdm, zdn, ia22, ld31, zdo, zdp, zdq, zdr, zds, zdt, zdu, zdv, zdw, zdx, zdy, zdz, zea, zeb, zec, fa_0, fa_1, zed, bd_0, bd_2, zee, fd_1, zef, Nat.zero_add, e5, e6, e7, j6, t8, t10, t12, ext_0, ext_1, st_Z, encZ_fold, s1, s2, q1, q2, u1, u2]
    refine forgetS (fun s => (callQ (evalFn Tryd.prog cfg0 100000 12) 14 [.int .i64 10, encZ (pw true 383), encZ ((383 - K : Nat) : Int)]).map (·, s)) (fun env s => env 5 = .int .i64 (K : Int) ∧ env 6 = .ptr 6 1 0 ∧ env 7 = .bool true ∧ env 9 = .bool false ∧ env 10 = .ptr 10 1 0 ∧ env 11 = .bool true ∧ s 6 = ⟨1, .buf [.bool (decide (pw true K < 0)), encR (pw true K).natAbs]⟩ ∧ s 10 = ⟨1, .buf [.bool (decide (pw true 383 < 0)), encR (pw true 383).natAbs]⟩ ∧ (s 12).t = 0) ⟨by simp only [zfa, ↓reduceIte, Nat.reduceEqDiff, e5], by simp only [zfa, ↓reduceIte, Nat.reduceEqDiff, e6], by simp only [zfa, ↓reduceIte, Nat.reduceEqDiff, e7], by simp only [zfa, ↓reduceIte, Nat.reduceEqDiff], by simp only [zfa, ↓reduceIte, Nat.reduceEqDiff], by simp only [zfa, ↓reduceIte, Nat.reduceEqDiff], by simp only [zfa, ↓reduceIte, Nat.reduceEqDiff, j6], by simp only [zfa, ↓reduceIte, Nat.reduceEqDiff], by simp only [zfa, ↓reduceIte, Nat.reduceEqDiff, t12]⟩ ?_
    clear e5 e6 e7 j6 t8 t10 t12
    intro env s ⟨e5, e6, e7, e9, e10, e11, j6, j10, t12⟩
    simp only [zaa, zab, zac, zad, zae, zaf, zag, zah, zai, zaj, zak, zal, zam, zan, zao, zap, zaq, zar, zas, zat, zau, zav, zaw, zax, zay, zaz, zba, zbb, zbc, zbd, zbe, zbf, zbg, zbh, zbi, zbj, Nat.reduceBEq, Bool.or_self, Bool.or_false, Bool.or_true, Bool.and_true, Bool.and_false, Bool.true_and, Bool.false_and, Option.isNone_none, Option.isNone_some, Option.isSome_some, Option.isSome_none, zbk, zbl, zbm, zbn, zbo, zbp, zbq, zbr, zbs, zbt, zbu, zbv, zbw, zbx, zby, zbz, zca, zcb, zcc, zcd, zce, zcf, zcg, zch, zci, zcj, zck, zcl, zcm, zcn, zco, zcp, zcq, zcr, zcs, zct, zcu, zcv, zcw, zcx, zcy, zcz, zda, zdb, zdc, zdd, zde, zdf, Option.getD_some, Option.getD_none, zet, zeu, zev, zew, zex, zey, zez, zfa, Option.map_some, Option.map_none, Option.bind_some, List.map_cons, List.map_nil, List.cons_append, List.nil_append, ↓reduceIte, Nat.reduceEqDiff, Nat.reduceAdd, decide_true, decide_false, Bool.true_eq_false, Bool.false_eq_true, env0, List.getElem?_cons_zero, List.getElem?_cons_succ, zdg, zdh, zdi, zdj, zdk, zdl, zdm, zdn, ia22, ld31, zdo, zdp, zdq, zdr, zds, zdt, zdu, zdv, zdw, zdx, zdy, zdz, zea, zeb, zec, fa_0, fa_1, zed, bd_0, bd_2, zee, fd_1, zef, Nat.zero_add, e5, e6, e7, e9, e10, e11, j6, j10, t12, ext_0, ext_1, st_Z, encZ_fold, u3, unA_not', Bool.not_false, w1, w2, w3, p1, p2, p3, a1, w]
    exact finish_b _ _ _ _ _ _ _ (by simp only [zfa, ↓reduceIte]) rfl
end Go.Ab
