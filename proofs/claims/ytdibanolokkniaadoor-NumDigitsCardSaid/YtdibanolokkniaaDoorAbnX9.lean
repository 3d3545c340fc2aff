/- The statement NumDigits, abstractly. Conditions: none beyond the list. -/
import Derived.Test.YtdibanolokkniaaDoorAbnX8
namespace Go.Ab
open Go.Proofs
set_option maxRecDepth 100000
set_option linter.unusedSimpArgs false

/-! ### Lists of ints -/
def encI (l : List Int) : AV := .sl (l.map (AV.int .i64)) l.length .loose
theorem tk46 : tkOf Tryd.prog 46 = .sl 3 := by kernel_rfl
theorem len46 (s : St) (l : List Int) : lenA Tryd.prog 46 s (encI l) = some (.int .i64 (l.length : Int)) := by simp only [lenA, tk46, encI]
theorem ia46 (s : St) (l : List Int) (i : Nat) : indexAddrA Tryd.prog 46 s (encI l) (.int .i64 (i : Int)) = if i < l.length then some (.rptr ((l.drop i).map (AV.int .i64))) else none := by
  simp only [indexAddrA, tk46, encI, esz3', Option.bind_some, Nat.mul_one, Int.toNat_natCast, List.map_drop]
  by_cases h : i < l.length
  · rw [if_pos h, if_pos ⟨by omega, by omega⟩]
  · rw [if_neg h, if_neg (by omega)]
theorem ld3r (s : St) (l : List Int) (i : Nat) (h : i < l.length) : loadA Tryd.prog 3 s (.rptr ((l.drop i).map (AV.int .i64))) = some (.int .i64 (l.getD i 0)) := by
  simp only [loadA, partA, sh3']
  rw [List.getElem?_map, List.getElem?_drop, Nat.add_zero, List.getElem?_eq_getElem h, List.getD_eq_getElem?_getD, List.getElem?_eq_getElem h]; rfl
theorem ten60 : 10 ^ 61 < B ^ 12 := by decide
theorem dec_app (N D : Nat) (hD : D < 10) (h : N * 10 + D ≠ 0) : decN (N * 10 + D) = decN N ++ [dg D] := by
  rw [decN_pos _ h, show (N * 10 + D) / 10 = N by omega]
  congr 2
  unfold dg
  rw [show (N * 10 + D) % 10 = D % 10 by omega]
theorem parse_dot (s : List UInt8) : parseR (s ++ [46]) = (0, false) := by
  have h : (cutS (s ++ [46])).2.all isDg = false := by
    cases s with
    | nil => decide
    | cons a r =>
      unfold cutS
      simp only [List.cons_append]
      split <;> simp [isDg]
  have : okS (s ++ [46]) = false := by unfold okS; rw [h, Bool.and_false]
  unfold parseR
  rw [if_neg (by rw [this]; decide)]
theorem dec_no48 (v : Nat) : ∀ c r, decN v = c :: r → c ≠ 48 := by
  have key : ∀ k v, v ≤ k → ∀ c r, decN v = c :: r → c ≠ 48 := by
    intro k
    induction k with
    | zero =>
      intro v hv c r h
      have : v = 0 := by omega
      rw [this, decN_0] at h; cases h
    | succ k ih =>
      intro v hv c r h
      by_cases h0 : v = 0
      · rw [h0, decN_0] at h; cases h
      · rw [decN_pos v h0] at h
        by_cases h1 : v / 10 = 0
        · rw [h1, decN_0, List.nil_append] at h
          cases h
          intro hc
          have := congrArg UInt8.toNat hc
          rw [dg_nat] at this
          simp at this
          omega
        · cases hd : decN (v / 10) with
          | nil => exact absurd ((decN_nil _).mp hd) h1
          | cons a t =>
            rw [hd] at h
            cases h
            exact ih (v / 10) (by omega) _ _ hd
  exact key v v (Nat.le_refl _)
theorem text_head (z : Int) (h : z ≠ 0) : ∀ r, textZ z ≠ 48 :: r := by
  intro r hr
  unfold textZ at hr
  rw [if_neg h] at hr
  split at hr
  · cases hr
  · exact dec_no48 _ _ _ hr rfl
theorem parse_zero (z : Int) (h : z ≠ 0) : parseR (48 :: textZ z) = (0, false) := by
  unfold parseR
  split
  · rename_i hok
    have hc : cutS (48 :: textZ z) = (false, 48 :: textZ z) := rfl
    rw [hc]
    split
    · rename_i h2
      exfalso
      rw [Bool.and_eq_true, beq_iff_eq] at h2
      have h3 := h2.2
      simp only at h3
      by_cases h0 : (mkZ (sgn false (valD (48 :: textZ z)))).1 = 0
      · rw [h0] at h3
        have h4 : textZ 0 = [48] := rfl
        rw [h4] at h3
        have : textZ z = [] := by simpa using h3.symm
        unfold textZ at this
        rw [if_neg h] at this
        split at this
        · cases this
        · exact h (by have := (decN_nil _).mp this; omega)
      · exact text_head _ h0 _ h3
    · rfl
  · rfl
theorem same_ZZ (z : Int) (h : z.natAbs < B ^ 12) (D : Nat) (s : St) : callA cfg0 (evalFn Tryd.prog cfg0 100000 12) D s 16 [encZ z, encZ z] = some (.bool true, s) :=
  callA_trees rfl (sameN_eq 100000 10 _ _ _ _ (by have := digs_len _ 12 h; omega) (by have := digs_len _ 12 h; omega))
/-- Of a number that is not nought, and its text: read again; with a sign more; with a nought ahead. -/
theorem tail_facts (z : Int) (S : List UInt8) (h0 : z ≠ 0) (hf : z.natAbs < B ^ 12) (hS : textZ z = S) :
    (∀ D s, callA cfg0 (evalFn Tryd.prog cfg0 100000 12) D s 32 [.str S] = some (tupZ (z, true), s)) ∧
    (∀ D s, callA cfg0 (evalFn Tryd.prog cfg0 100000 12) D s 32 [.str (S ++ [46])] = some (tupZ (0, false), s)) ∧
    (∀ D s, callA cfg0 (evalFn Tryd.prog cfg0 100000 12) D s 32 [.str (48 :: S)] = some (tupZ (0, false), s)) ∧
    (∀ D s, callA cfg0 (evalFn Tryd.prog cfg0 100000 12) D s 34 [encZ z] = some (.str S, s)) ∧
    binA Tryd.prog .add 9 (.str S) (.str [46]) = some (.str (S ++ [46])) ∧
    binA Tryd.prog .add 9 (.str [48]) (.str S) = some (.str (48 :: S)) := by
  subst hS
  have hl := text_len z hf
  refine ⟨fun D s => ?_, fun D s => ?_, fun D s => ?_, fun D s => ?_, ?_, ?_⟩
  · have := callA_trees (cfg := cfg0) (d := D) (s := s) (f := 32) (vs := [.str (textZ z)]) rfl (parse_eq 5 (textZ z) (by omega))
    rw [parse_text z hf] at this; exact this
  · have := callA_trees (cfg := cfg0) (d := D) (s := s) (f := 32) (vs := [.str (textZ z ++ [46])]) rfl (parse_eq 5 (textZ z ++ [46]) (by rw [List.length_append, List.length_singleton]; omega))
    rw [parse_dot] at this; exact this
  · have := callA_trees (cfg := cfg0) (d := D) (s := s) (f := 32) (vs := [.str (48 :: textZ z)]) rfl (parse_eq 5 (48 :: textZ z) (by rw [List.length_cons]; omega))
    rw [parse_zero z h0] at this; exact this
  · exact callA_trees rfl (text_eq 100000 6 (Nat.le_refl _) (isN_Z z hf))
  · exact s_addS Tryd.prog 9 (textZ z) [46] (by rw [List.length_singleton]; omega)
  · exact s_addS Tryd.prog 9 [48] (textZ z) (by rw [List.length_singleton]; omega)
set_option maxHeartbeats 32000000 in
theorem digits_eqN (l : List Int) (neg : Bool) : evalFn Tryd.prog cfg0 100000 13 10 [.tree (encI l), .tree (.bool neg)] = some (.tree (.bool true), [[], []]) := by
  rw [evalFn_go _ Tryd.func10 (by unfold Tryd.f10; rfl) (by unfold Tryd.f10; decide) (Nat.le_of_ble_eq_true (by unfold Tryd.f10; rfl)) (by kernel_rfl)]
  have big := B12_big
  have w := cAwakeN
  have o0 := fun D s => cOf64 100000 9 (Nat.le_refl _) 0 (by decide) (by decide) D s
  simp only [zaa, zab, zac, zad, zae, zaf, zag, zah, zai, zaj, zak, zal, zam, zan, zao, zap, zaq, zar, zas, zat, zau, zav, zaw, zax, zay, zaz, zba, zbb, zbc, zbd, zbe, zbf, zbg, zbh, zbi, zbj, Nat.reduceBEq, Bool.or_self, Bool.or_false, Bool.or_true, Bool.and_true, Bool.and_false, Bool.true_and, Bool.false_and, Option.isNone_none, Option.isNone_some, Option.isSome_some, Option.isSome_none, zbk, zbl, zbm, zbn, zbo, zbp, zbq, zbr, zbs, zbt, zbu, zbv, zbw, zbx, zby, zbz, zca, zcb, zcc, zcd, zce, zcf, zcg, zch, zci, zcj, zck, zcl, zcm, zcn, zco, zcp, zcq, zcr, zcs, zct, zcu, zcv, zcw, zcx, zcy, zcz, zda, zdb, zdc, zdd, zde, zdf, Option.getD_some, Option.getD_none, zet, zeu, zev, zew, zex, zey, zez, zfa, Option.map_some, Option.map_none, Option.bind_some, List.map_cons, List.map_nil, List.cons_append, List.nil_append, ↓reduceIte, Nat.reduceEqDiff, Nat.reduceAdd, decide_true, decide_false, Bool.true_eq_false, Bool.false_eq_true, env0, List.getElem?_cons_zero, List.getElem?_cons_succ, zdg, zdh, zdi, zdj, zdk, zdl, zdm, zdn, ia22, ld31, zdo, zdp, zdq, zdr, zds, zdt, zdu, zdv, zdw, zdx, zdy, zdz, zea, zeb, zec, fa_0, fa_1, zed, bd_0, bd_2, zee, fd_1, zef, Nat.zero_add, zeg, List.toList_toArray, len9, ix9, zeh, zei, zej, zek, zel, st0_2, o0, st_Z, encZ_fold, den_loop]
  refine loop_ends (X := Nat × Nat) (fun x env s => env 0 = encI l ∧ env 1 = .bool neg ∧ env 5 = .str (decN x.2) ∧ env 6 = .ptr 6 1 0 ∧ env 7 = .int .i64 (x.1 : Int) ∧ s 6 = ⟨1, .buf [.bool (decide ((x.2 : Int) < 0)), encR ((x.2 : Int)).natAbs]⟩ ∧ x.1 ≤ 60 ∧ x.1 ≤ l.length ∧ x.2 < 10 ^ x.1 ∧ (s 11).t = 0 ∧ (s 13).t = 0 ∧ (s 15).t = 0) (fun x => 61 - x.1) (fun _ => (.tree (.bool true), [[], []])) ?_ 100000 (0, 0) _ _ (by simp only; omega) ⟨by first | (simp only [zfa, ↓reduceIte, Nat.reduceEqDiff]; done) | (simp only [zfa, ↓reduceIte, Nat.reduceEqDiff]; rfl), by first | (simp only [zfa, ↓reduceIte, Nat.reduceEqDiff]; done) | (simp only [zfa, ↓reduceIte, Nat.reduceEqDiff]; rfl), by rw [decN_0]; first | (simp only [zfa, ↓reduceIte, Nat.reduceEqDiff]; done) | (simp only [zfa, ↓reduceIte, Nat.reduceEqDiff]; rfl), by first | (simp only [zfa, ↓reduceIte, Nat.reduceEqDiff]; done) | (simp only [zfa, ↓reduceIte, Nat.reduceEqDiff]; rfl), by first | (simp only [zfa, ↓reduceIte, Nat.reduceEqDiff]; done) | (simp only [zfa, ↓reduceIte, Nat.reduceEqDiff]; rfl), by first | (simp only [zfa, ↓reduceIte, Nat.reduceEqDiff]; done) | (simp only [zfa, ↓reduceIte, Nat.reduceEqDiff]; rfl), by decide, Nat.zero_le _, by decide, by simp only [zfa, ↓reduceIte, Nat.reduceEqDiff, zdw], by simp only [zfa, ↓reduceIte, Nat.reduceEqDiff, zdw], by simp only [zfa, ↓reduceIte, Nat.reduceEqDiff, zdw]⟩
  clear o0
  intro k ⟨i, N⟩ hxk ih env s ⟨e0, e1, e5, e6, e7, j6, hi60, hil, hN, t11, t13, t15⟩
  simp only at e5 e7 j6 hi60 hil hN hxk
  have hNB : N < 10 ^ 60 := Nat.lt_of_lt_of_le hN (Nat.pow_le_pow_right (by decide) hi60)
  by_cases hgo : i < l.length ∧ i < 60
  · have q1 : (i : Int) < (l.length : Int) := by omega
    have q2 : (i : Int) < 60 := by omega
    have q3 := hgo.1
    have pr := place_range (l.getD i 0) 10 (by decide)
    have c0 := fun D s => cPlace 100000 11 (l.getD i 0) 10 (by decide) (by decide) D s
    obtain ⟨D, hD⟩ : ∃ D : Nat, placeN (l.getD i 0) 10 = (D : Int) := ⟨(placeN (l.getD i 0) 10).toNat, by omega⟩
    rw [hD] at c0 pr
    have hD10 : D < 10 := by omega
    have ld := fun s => ld3r s l i hgo.1
    have a1 := i_add Tryd.prog 3 (i : Int) 1 (by omega) (by omega)
    have hpw : 10 ^ (i + 1) = 10 ^ i * 10 := Nat.pow_succ ..
    by_cases hz : N * 10 + D = 0
    · have hN0 : N = 0 := by omega
      have hD0 : D = 0 := by omega
      subst hN0
      subst hD0
      have q4 : ((decN 0 : List UInt8) == []) = true := by rw [decN_0]; rfl
      have q5 : (((0 : Nat) : Int) == 0) = true := rfl
      simp only [zaa, zab, zac, zad, zae, zaf, zag, zah, zai, zaj, zak, zal, zam, zan, zao, zap, zaq, zar, zas, zat, zau, zav, zaw, zax, zay, zaz, zba, zbb, zbc, zbd, zbe, zbf, zbg, zbh, zbi, zbj, Nat.reduceBEq, Bool.or_self, Bool.or_false, Bool.or_true, Bool.and_true, Bool.and_false, Bool.true_and, Bool.false_and, Option.isNone_none, Option.isNone_some, Option.isSome_some, Option.isSome_none, zbk, zbl, zbm, zbn, zbo, zbp, zbq, zbr, zbs, zbt, zbu, zbv, zbw, zbx, zby, zbz, zca, zcb, zcc, zcd, zce, zcf, zcg, zch, zci, zcj, zck, zcl, zcm, zcn, zco, zcp, zcq, zcr, zcs, zct, zcu, zcv, zcw, zcx, zcy, zcz, zda, zdb, zdc, zdd, zde, zdf, Option.getD_some, Option.getD_none, zet, zeu, zev, zew, zex, zey, zez, zfa, Option.map_some, Option.map_none, Option.bind_some, List.map_cons, List.map_nil, List.cons_append, List.nil_append, ↓reduceIte, Nat.reduceEqDiff, Nat.reduceAdd, decide_true, decide_false, Bool.true_eq_false, Bool.false_eq_true, env0, List.getElem?_cons_zero, List.getElem?_cons_succ, zdg, zdh, zdi, zdj, zdk, zdl, zdm, zdn, ia22, ld31, zdo, zdp, zdq, zdr, zds, zdt, zdu, zdv, zdw, zdx, zdy, zdz, zea, zeb, zec, fa_0, fa_1, zed, bd_0, bd_2, zee, fd_1, zef, Nat.zero_add, zeg, List.toList_toArray, len9, ix9, zeh, zei, zej, zek, zel, e0, e1, e5, e6, e7, j6, len46, ia46, ld, q1, q2, q3, c0, q4, q5, a1]
      refine ih (i + 1, 0) _ _ (by simp only; omega) rfl ⟨?_, ?_, ?_, ?_, ?_, j6, by simp only; omega, by simp only; omega, by simp only; omega, t11, t13, t15⟩
      · simp only [zfa, ↓reduceIte, Nat.reduceEqDiff, e0]
      · simp only [zfa, ↓reduceIte, Nat.reduceEqDiff, e1]
      · simp only [zfa, ↓reduceIte, Nat.reduceEqDiff, e5]
      · simp only [zfa, ↓reduceIte, Nat.reduceEqDiff, e6]
      · simp only [zfa, ↓reduceIte, Nat.reduceEqDiff]; rfl
    · have q9 : (0 : Int) ≤ (D : Int) + 1 ∧ (D : Int) + 1 ≤ ((dgs.length : Nat) : Int) := by
        have : dgs.length = 10 := rfl
        omega
      have q10 : (0 : Int) ≤ (D : Int) ∧ (D : Int) ≤ ((((D : Int) + 1).toNat : Nat) : Int) := by omega
      have q11 : (dgs.take ((D : Int) + 1).toNat).drop ((D : Int)).toNat = [dg D] := by
        rw [show ((D : Int) + 1).toNat = D + 1 by omega, Int.toNat_natCast]
        exact dgs_at ⟨D, hD10⟩
      have edg : ([48, 49, 50, 51, 52, 53, 54, 55, 56, 57] : List UInt8) = dgs := rfl
      have a2 := i_add Tryd.prog 3 (D : Int) 1 (by omega) (by omega)
      have hdl := dec_len 60 N hNB
      have ad := s_addS Tryd.prog 9 (decN N) [dg D] (by simp only [List.length_cons, List.length_nil]; omega)
      rw [← dec_app N D hD10 hz] at ad
      have h61 : N * 10 + D < 10 ^ 61 := by rw [show (61 : Nat) = 60 + 1 from rfl, Nat.pow_succ]; omega
      have nN := isN_Z (N : Int) (by rw [Int.natAbs_natCast]; exact Nat.lt_trans (Nat.lt_trans hNB (Nat.pow_lt_pow_right (by decide) (by decide))) ten60)
      have n10 := isN_Z 10 (by omega)
      have fit1 : ((N : Int) * 10).natAbs < B ^ 12 := by rw [show ((N : Int) * 10).natAbs = N * 10 by omega]; exact Nat.lt_of_le_of_lt (Nat.le_add_right _ D) (Nat.lt_trans h61 ten60)
      have nM := isN_Z ((N : Int) * 10) fit1
      have nD := isN_Z (D : Int) (by omega)
      have fit2 : ((N : Int) * 10 + (D : Int)).natAbs < B ^ 12 := by rw [show ((N : Int) * 10 + (D : Int)).natAbs = N * 10 + D by omega]; exact Nat.lt_trans h61 ten60
      have o10 := qOf64 100000 9 (Nat.le_refl _) 10 (by decide) (by decide)
      have oD := qOf64 100000 9 (Nat.le_refl _) (D : Int) (by omega) (by omega)
      have u3 := callQ_trees (f := 14) (vs := [.int .i64 3, encZ (N : Int), encZ 10]) rfl (op3_eq 100000 6 (Nat.le_refl _) nN n10)
      rw [madeV_fit fit1] at u3
      have u1 := callQ_trees (f := 14) (vs := [.int .i64 1, encZ ((N : Int) * 10), encZ (D : Int)]) rfl (op1_eq 100000 6 (Nat.le_refl _) nM nD)
      rw [madeV_fit fit2] at u1
      have q4' : (decN N == []) = true → ((D : Int) == 0) = false := fun h => by
        rw [beq_iff_eq, decN_nil] at h
        rw [beq_eq_false_iff_ne]; omega
      have fin : ∀ (env' : Env) (s' : St), env' 0 = encI l ∧ env' 1 = .bool neg ∧ env' 5 = .str (decN (N * 10 + D)) ∧ env' 6 = .ptr 6 1 0 ∧ env' 7 = .int .i64 ((i : Int) + 1) ∧ s' 6 = ⟨1, .buf [.bool (decide ((N : Int) * 10 + (D : Int) < 0)), encR ((N : Int) * 10 + (D : Int)).natAbs]⟩ ∧ (s' 11).t = 0 ∧ (s' 13).t = 0 ∧ (s' 15).t = 0 → _ := fun env' s' h => ih (i + 1, N * 10 + D) env' s' (by simp only; omega) rfl ⟨h.1, h.2.1, h.2.2.1, h.2.2.2.1, h.2.2.2.2.1, h.2.2.2.2.2.1, by simp only; omega, by simp only; omega, by simp only; rw [hpw]; omega, h.2.2.2.2.2.2⟩
      clear ih
      cases q4 : (decN N == []) with
      | true =>
        have q5 := q4' q4
        simp only [zaa, zab, zac, zad, zae, zaf, zag, zah, zai, zaj, zak, zal, zam, zan, zao, zap, zaq, zar, zas, zat, zau, zav, zaw, zax, zay, zaz, zba, zbb, zbc, zbd, zbe, zbf, zbg, zbh, zbi, zbj, Nat.reduceBEq, Bool.or_self, Bool.or_false, Bool.or_true, Bool.and_true, Bool.and_false, Bool.true_and, Bool.false_and, Option.isNone_none, Option.isNone_some, Option.isSome_some, Option.isSome_none, zbk, zbl, zbm, zbn, zbo, zbp, zbq, zbr, zbs, zbt, zbu, zbv, zbw, zbx, zby, zbz, zca, zcb, zcc, zcd, zce, zcf, zcg, zch, zci, zcj, zck, zcl, zcm, zcn, zco, zcp, zcq, zcr, zcs, zct, zcu, zcv, zcw, zcx, zcy, zcz, zda, zdb, zdc, zdd, zde, zdf, Option.getD_some, Option.getD_none, zet, zeu, zev, zew, zex, zey, zez, zfa, Option.map_some, Option.map_none, Option.bind_some, List.map_cons, List.map_nil, List.cons_append, List.nil_append, ↓reduceIte, Nat.reduceEqDiff, Nat.reduceAdd, decide_true, decide_false, Bool.true_eq_false, Bool.false_eq_true, env0, List.getElem?_cons_zero, List.getElem?_cons_succ, zdg, zdh, zdi, zdj, zdk, zdl, zdm, zdn, ia22, ld31, zdo, zdp, zdq, zdr, zds, zdt, zdu, zdv, zdw, zdx, zdy, zdz, zea, zeb, zec, fa_0, fa_1, zed, bd_0, bd_2, zee, fd_1, zef, Nat.zero_add, zeg, List.toList_toArray, len9, ix9, zeh, zei, zej, zek, zel, e0, e1, e5, e6, e7, j6, len46, ia46, ld, q1, q2, q3, c0, q4, q5, edg, a2, sl9_lh, q9, q10, and_self, q11, ad, o10, oD, u3, u1, ext_0, ext_1, st_Z, encZ_fold, a1]
        refine fin _ _ ⟨?_, ?_, ?_, ?_, ?_, ?_, ?_, ?_, ?_⟩
        · simp only [zfa, ↓reduceIte, Nat.reduceEqDiff, e0]
        · simp only [zfa, ↓reduceIte, Nat.reduceEqDiff, e1]
        · simp only [zfa, ↓reduceIte, Nat.reduceEqDiff]
        · simp only [zfa, ↓reduceIte, Nat.reduceEqDiff, e6]
        · simp only [zfa, ↓reduceIte, Nat.reduceEqDiff]
        · simp only [zfa, ↓reduceIte, Nat.reduceEqDiff]
        · simp only [zfa, ↓reduceIte, Nat.reduceEqDiff, t11]
        · simp only [zfa, ↓reduceIte, Nat.reduceEqDiff, t13]
        · simp only [zfa, ↓reduceIte, Nat.reduceEqDiff, t15]
      | false =>
        simp only [zaa, zab, zac, zad, zae, zaf, zag, zah, zai, zaj, zak, zal, zam, zan, zao, zap, zaq, zar, zas, zat, zau, zav, zaw, zax, zay, zaz, zba, zbb, zbc, zbd, zbe, zbf, zbg, zbh, zbi, zbj, Nat.reduceBEq, Bool.or_self, Bool.or_false, Bool.or_true, Bool.and_true, Bool.and_false, Bool.true_and, Bool.false_and, Option.isNone_none, Option.isNone_some, Option.isSome_some, Option.isSome_none, zbk, zbl, zbm, zbn, zbo, zbp, zbq, zbr, zbs, zbt, zbu, zbv, zbw, zbx, zby, zbz, zca, zcb, zcc, zcd, zce, zcf, zcg, zch, zci, zcj, zck, zcl, zcm, zcn, zco, zcp, zcq, zcr, zcs, zct, zcu, zcv, zcw, zcx, zcy, zcz, zda, zdb, zdc, zdd, zde, zdf, Option.getD_some, Option.getD_none, zet, zeu, zev, zew, zex, zey, zez, zfa, Option.map_some, Option.map_none, Option.bind_some, List.map_cons, List.map_nil, List.cons_append, List.nil_append, ↓reduceIte, Nat.reduceEqDiff, Nat.reduceAdd, decide_true, decide_false, Bool.true_eq_false, Bool.false_eq_true, env0, List.getElem?_cons_zero, List.getElem?_cons_succ, zdg, zdh, zdi, zdj, zdk, zdl, zdm, zdn, ia22, ld31, zdo, zdp, zdq, zdr, zds, zdt, zdu, zdv, zdw, zdx, zdy, zdz, zea, zeb, zec, fa_0, fa_1, zed, bd_0, bd_2, zee, fd_1, zef, Nat.zero_add, zeg, List.toList_toArray, len9, ix9, zeh, zei, zej, zek, zel, e0, e1, e5, e6, e7, j6, len46, ia46, ld, q1, q2, q3, c0, q4, edg, a2, sl9_lh, q9, q10, and_self, q11, ad, o10, oD, u3, u1, ext_0, ext_1, st_Z, encZ_fold, a1]
        refine fin _ _ ⟨?_, ?_, ?_, ?_, ?_, ?_, ?_, ?_, ?_⟩
        · simp only [zfa, ↓reduceIte, Nat.reduceEqDiff, e0]
        · simp only [zfa, ↓reduceIte, Nat.reduceEqDiff, e1]
        · simp only [zfa, ↓reduceIte, Nat.reduceEqDiff]
        · simp only [zfa, ↓reduceIte, Nat.reduceEqDiff, e6]
        · simp only [zfa, ↓reduceIte, Nat.reduceEqDiff]
        · simp only [zfa, ↓reduceIte, Nat.reduceEqDiff]
        · simp only [zfa, ↓reduceIte, Nat.reduceEqDiff, t11]
        · simp only [zfa, ↓reduceIte, Nat.reduceEqDiff, t13]
        · simp only [zfa, ↓reduceIte, Nat.reduceEqDiff, t15]
  · have hfitN : N < B ^ 12 := Nat.lt_trans (Nat.lt_trans hNB (Nat.pow_lt_pow_right (by decide) (by decide))) ten60
    clear ih
    by_cases hlt : i < l.length
    · have q1 : (i : Int) < (l.length : Int) := by omega
      have q2 : ¬ (i : Int) < 60 := by omega
      by_cases hN0 : N = 0
      · subst hN0
        have q4 : ((decN 0 : List UInt8) == []) = true := by rw [decN_0]; rfl
        have c6 := fun D s => callA_trees (cfg := cfg0) (d := D) (s := s) (f := 34) (vs := [encZ ((0 : Nat) : Int)]) rfl (text_eq 100000 6 (Nat.le_refl _) (isN_Z ((0 : Nat) : Int) (Nat.pow_pos (by decide))))
        have q5 : (textZ ((0 : Nat) : Int) == [48]) = true := rfl
        simp only [zaa, zab, zac, zad, zae, zaf, zag, zah, zai, zaj, zak, zal, zam, zan, zao, zap, zaq, zar, zas, zat, zau, zav, zaw, zax, zay, zaz, zba, zbb, zbc, zbd, zbe, zbf, zbg, zbh, zbi, zbj, Nat.reduceBEq, Bool.or_self, Bool.or_false, Bool.or_true, Bool.and_true, Bool.and_false, Bool.true_and, Bool.false_and, Option.isNone_none, Option.isNone_some, Option.isSome_some, Option.isSome_none, zbk, zbl, zbm, zbn, zbo, zbp, zbq, zbr, zbs, zbt, zbu, zbv, zbw, zbx, zby, zbz, zca, zcb, zcc, zcd, zce, zcf, zcg, zch, zci, zcj, zck, zcl, zcm, zcn, zco, zcp, zcq, zcr, zcs, zct, zcu, zcv, zcw, zcx, zcy, zcz, zda, zdb, zdc, zdd, zde, zdf, Option.getD_some, Option.getD_none, zet, zeu, zev, zew, zex, zey, zez, zfa, Option.map_some, Option.map_none, Option.bind_some, List.map_cons, List.map_nil, List.cons_append, List.nil_append, ↓reduceIte, Nat.reduceEqDiff, Nat.reduceAdd, decide_true, decide_false, Bool.true_eq_false, Bool.false_eq_true, env0, List.getElem?_cons_zero, List.getElem?_cons_succ, zdg, zdh, zdi, zdj, zdk, zdl, zdm, zdn, ia22, ld31, zdo, zdp, zdq, zdr, zds, zdt, zdu, zdv, zdw, zdx, zdy, zdz, zea, zeb, zec, fa_0, fa_1, zed, bd_0, bd_2, zee, fd_1, zef, Nat.zero_add, zeg, List.toList_toArray, len9, ix9, zeh, zei, zej, zek, zel, e0, e1, e5, e6, e7, j6, t11, t13, t15, len46, q1, q2, q4, encZ_fold, c6, q5, w]
        exact finish_b _ _ _ _ _ _ _ (by simp only [zfa, ↓reduceIte]) rfl
      · have q4 : (decN N == []) = false := by rw [beq_eq_false_iff_ne]; exact fun h => hN0 ((decN_nil N).mp h)
        cases neg with
        | false =>
          obtain ⟨k1, k2, k3, k4, k5, k6⟩ := tail_facts (N : Int) (decN N) (by omega) (by omega) (by unfold textZ; rw [if_neg (by omega), if_neg (by omega), Int.natAbs_natCast])
          simp only [zaa, zab, zac, zad, zae, zaf, zag, zah, zai, zaj, zak, zal, zam, zan, zao, zap, zaq, zar, zas, zat, zau, zav, zaw, zax, zay, zaz, zba, zbb, zbc, zbd, zbe, zbf, zbg, zbh, zbi, zbj, Nat.reduceBEq, Bool.or_self, Bool.or_false, Bool.or_true, Bool.and_true, Bool.and_false, Bool.true_and, Bool.false_and, Option.isNone_none, Option.isNone_some, Option.isSome_some, Option.isSome_none, zbk, zbl, zbm, zbn, zbo, zbp, zbq, zbr, zbs, zbt, zbu, zbv, zbw, zbx, zby, zbz, zca, zcb, zcc, zcd, zce, zcf, zcg, zch, zci, zcj, zck, zcl, zcm, zcn, zco, zcp, zcq, zcr, zcs, zct, zcu, zcv, zcw, zcx, zcy, zcz, zda, zdb, zdc, zdd, zde, zdf, Option.getD_some, Option.getD_none, zet, zeu, zev, zew, zex, zey, zez, zfa, Option.map_some, Option.map_none, Option.bind_some, List.map_cons, List.map_nil, List.cons_append, List.nil_append, ↓reduceIte, Nat.reduceEqDiff, Nat.reduceAdd, decide_true, decide_false, Bool.true_eq_false, Bool.false_eq_true, env0, List.getElem?_cons_zero, List.getElem?_cons_succ, zdg, zdh, zdi, zdj, zdk, zdl, zdm, zdn, ia22, ld31, zdo, zdp, zdq, zdr, zds, zdt, zdu, zdv, zdw, zdx, zdy, zdz, zea, zeb, zec, fa_0, fa_1, zed, bd_0, bd_2, zee, fd_1, zef, Nat.zero_add, zeg, List.toList_toArray, len9, ix9, zeh, zei, zej, zek, zel, e0, e1, e5, e6, e7, j6, t11, t13, t15, len46, q1, q2, q4, encZ_fold, k1, k2, k3, k4, k5, k6, ext_0, ext_1, st_Z, tupZ, same_ZZ (N : Int) (by omega), beq_self_eq_true, unA_not', Bool.not_false, w]
          exact finish_b _ _ _ _ _ _ _ (by simp only [zfa, ↓reduceIte]) rfl
        | true =>
          have nN := isN_Z (N : Int) (by omega)
          have cn := fun D s => cNeg 100000 9 (Nat.le_refl _) nN D s
          have hdl := dec_len 60 N hNB
          have ad := s_addS Tryd.prog 9 [45] (decN N) (by simp only [List.length_cons, List.length_nil]; omega)
          obtain ⟨k1, k2, k3, k4, k5, k6⟩ := tail_facts (-(N : Int)) (45 :: decN N) (by omega) (by omega) (by unfold textZ; rw [if_neg (by omega), if_pos (by omega), show (-(N : Int)).natAbs = N by omega])
          simp only [List.cons_append] at k2 k5
          simp only [zaa, zab, zac, zad, zae, zaf, zag, zah, zai, zaj, zak, zal, zam, zan, zao, zap, zaq, zar, zas, zat, zau, zav, zaw, zax, zay, zaz, zba, zbb, zbc, zbd, zbe, zbf, zbg, zbh, zbi, zbj, Nat.reduceBEq, Bool.or_self, Bool.or_false, Bool.or_true, Bool.and_true, Bool.and_false, Bool.true_and, Bool.false_and, Option.isNone_none, Option.isNone_some, Option.isSome_some, Option.isSome_none, zbk, zbl, zbm, zbn, zbo, zbp, zbq, zbr, zbs, zbt, zbu, zbv, zbw, zbx, zby, zbz, zca, zcb, zcc, zcd, zce, zcf, zcg, zch, zci, zcj, zck, zcl, zcm, zcn, zco, zcp, zcq, zcr, zcs, zct, zcu, zcv, zcw, zcx, zcy, zcz, zda, zdb, zdc, zdd, zde, zdf, Option.getD_some, Option.getD_none, zet, zeu, zev, zew, zex, zey, zez, zfa, Option.map_some, Option.map_none, Option.bind_some, List.map_cons, List.map_nil, List.cons_append, List.nil_append, ↓reduceIte, Nat.reduceEqDiff, Nat.reduceAdd, decide_true, decide_false, Bool.true_eq_false, Bool.false_eq_true, env0, List.getElem?_cons_zero, List.getElem?_cons_succ, zdg, zdh, zdi, zdj, zdk, zdl, zdm, zdn, ia22, ld31, zdo, zdp, zdq, zdr, zds, zdt, zdu, zdv, zdw, zdx, zdy, zdz, zea, zeb, zec, fa_0, fa_1, zed, bd_0, bd_2, zee, fd_1, zef, Nat.zero_add, zeg, List.toList_toArray, len9, ix9, zeh, zei, zej, zek, zel, e0, e1, e5, e6, e7, j6, t11, t13, t15, len46, q1, q2, q4, encZ_fold, ad, cn, k1, k2, k3, k4, k5, k6, ext_0, ext_1, st_Z, tupZ, same_ZZ (-(N : Int)) (by omega), beq_self_eq_true, unA_not', Bool.not_false, w]
          exact finish_b _ _ _ _ _ _ _ (by simp only [zfa, ↓reduceIte]) rfl
    · have q1 : ¬ (i : Int) < (l.length : Int) := by omega
      by_cases hN0 : N = 0
      · subst hN0
        have q4 : ((decN 0 : List UInt8) == []) = true := by rw [decN_0]; rfl
        have c6 := fun D s => callA_trees (cfg := cfg0) (d := D) (s := s) (f := 34) (vs := [encZ ((0 : Nat) : Int)]) rfl (text_eq 100000 6 (Nat.le_refl _) (isN_Z ((0 : Nat) : Int) (Nat.pow_pos (by decide))))
        have q5 : (textZ ((0 : Nat) : Int) == [48]) = true := rfl
        simp only [zaa, zab, zac, zad, zae, zaf, zag, zah, zai, zaj, zak, zal, zam, zan, zao, zap, zaq, zar, zas, zat, zau, zav, zaw, zax, zay, zaz, zba, zbb, zbc, zbd, zbe, zbf, zbg, zbh, zbi, zbj, Nat.reduceBEq, Bool.or_self, Bool.or_false, Bool.or_true, Bool.and_true, Bool.and_false, Bool.true_and, Bool.false_and, Option.isNone_none, Option.isNone_some, Option.isSome_some, Option.isSome_none, zbk, zbl, zbm, zbn, zbo, zbp, zbq, zbr, zbs, zbt, zbu, zbv, zbw, zbx, zby, zbz, zca, zcb, zcc, zcd, zce, zcf, zcg, zch, zci, zcj, zck, zcl, zcm, zcn, zco, zcp, zcq, zcr, zcs, zct, zcu, zcv, zcw, zcx, zcy, zcz, zda, zdb, zdc, zdd, zde, zdf, Option.getD_some, Option.getD_none, zet, zeu, zev, zew, zex, zey, zez, zfa, Option.map_some, Option.map_none, Option.bind_some, List.map_cons, List.map_nil, List.cons_append, List.nil_append, ↓reduceIte, Nat.reduceEqDiff, Nat.reduceAdd, decide_true, decide_false, Bool.true_eq_false, Bool.false_eq_true, env0, List.getElem?_cons_zero, List.getElem?_cons_succ, zdg, zdh, zdi, zdj, zdk, zdl, zdm, zdn, ia22, ld31, zdo, zdp, zdq, zdr, zds, zdt, zdu, zdv, zdw, zdx, zdy, zdz, zea, zeb, zec, fa_0, fa_1, zed, bd_0, bd_2, zee, fd_1, zef, Nat.zero_add, zeg, List.toList_toArray, len9, ix9, zeh, zei, zej, zek, zel, e0, e1, e5, e6, e7, j6, t11, t13, t15, len46, q1, q4, encZ_fold, c6, q5, w]
        exact finish_b _ _ _ _ _ _ _ (by simp only [zfa, ↓reduceIte]) rfl
      · have q4 : (decN N == []) = false := by rw [beq_eq_false_iff_ne]; exact fun h => hN0 ((decN_nil N).mp h)
        cases neg with
        | false =>
          obtain ⟨k1, k2, k3, k4, k5, k6⟩ := tail_facts (N : Int) (decN N) (by omega) (by omega) (by unfold textZ; rw [if_neg (by omega), if_neg (by omega), Int.natAbs_natCast])
          simp only [zaa, zab, zac, zad, zae, zaf, zag, zah, zai, zaj, zak, zal, zam, zan, zao, zap, zaq, zar, zas, zat, zau, zav, zaw, zax, zay, zaz, zba, zbb, zbc, zbd, zbe, zbf, zbg, zbh, zbi, zbj, Nat.reduceBEq, Bool.or_self, Bool.or_false, Bool.or_true, Bool.and_true, Bool.and_false, Bool.true_and, Bool.false_and, Option.isNone_none, Option.isNone_some, Option.isSome_some, Option.isSome_none, zbk, zbl, zbm, zbn, zbo, zbp, zbq, zbr, zbs, zbt, zbu, zbv, zbw, zbx, zby, zbz, zca, zcb, zcc, zcd, zce, zcf, zcg, zch, zci, zcj, zck, zcl, zcm, zcn, zco, zcp, zcq, zcr, zcs, zct, zcu, zcv, zcw, zcx, zcy, zcz, zda, zdb, zdc, zdd, zde, zdf, Option.getD_some, Option.getD_none, zet, zeu, zev, zew, zex, zey, zez, zfa, Option.map_some, Option.map_none, Option.bind_some, List.map_cons, List.map_nil, List.cons_append, List.nil_append, ↓reduceIte, Nat.reduceEqDiff, Nat.reduceAdd, decide_true, decide_false, Bool.true_eq_false, Bool.false_eq_true, env0, List.getElem?_cons_zero, List.getElem?_cons_succ, zdg, zdh, zdi, zdj, zdk, zdl, zdm, zdn, ia22, ld31, zdo, zdp, zdq, zdr, zds, zdt, zdu, zdv, zdw, zdx, zdy, zdz, zea, zeb, zec, fa_0, fa_1, zed, bd_0, bd_2, zee, fd_1, zef, Nat.zero_add, zeg, List.toList_toArray, len9, ix9, zeh, zei, zej, zek, zel, e0, e1, e5, e6, e7, j6, t11, t13, t15, len46, q1, q4, encZ_fold, k1, k2, k3, k4, k5, k6, ext_0, ext_1, st_Z, tupZ, same_ZZ (N : Int) (by omega), beq_self_eq_true, unA_not', Bool.not_false, w]
          exact finish_b _ _ _ _ _ _ _ (by simp only [zfa, ↓reduceIte]) rfl
        | true =>
          have nN := isN_Z (N : Int) (by omega)
          have cn := fun D s => cNeg 100000 9 (Nat.le_refl _) nN D s
          have hdl := dec_len 60 N hNB
          have ad := s_addS Tryd.prog 9 [45] (decN N) (by simp only [List.length_cons, List.length_nil]; omega)
          obtain ⟨k1, k2, k3, k4, k5, k6⟩ := tail_facts (-(N : Int)) (45 :: decN N) (by omega) (by omega) (by unfold textZ; rw [if_neg (by omega), if_pos (by omega), show (-(N : Int)).natAbs = N by omega])
          simp only [List.cons_append] at k2 k5
          simp only [zaa, zab, zac, zad, zae, zaf, zag, zah, zai, zaj, zak, zal, zam, zan, zao, zap, zaq, zar, zas, zat, zau, zav, zaw, zax, zay, zaz, zba, zbb, zbc, zbd, zbe, zbf, zbg, zbh, zbi, zbj, Nat.reduceBEq, Bool.or_self, Bool.or_false, Bool.or_true, Bool.and_true, Bool.and_false, Bool.true_and, Bool.false_and, Option.isNone_none, Option.isNone_some, Option.isSome_some, Option.isSome_none, zbk, zbl, zbm, zbn, zbo, zbp, zbq, zbr, zbs, zbt, zbu, zbv, zbw, zbx, zby, zbz, zca, zcb, zcc, zcd, zce, zcf, zcg, zch, zci, zcj, zck, zcl, zcm, zcn, zco, zcp, zcq, zcr, zcs, zct, zcu, zcv, zcw, zcx, zcy, zcz, zda, zdb, zdc, zdd, zde, zdf, Option.getD_some, Option.getD_none, zet, zeu, zev, zew, zex, zey, zez, zfa, Option.map_some, Option.map_none, Option.bind_some, List.map_cons, List.map_nil, List.cons_append, List.nil_append, ↓reduceIte, Nat.reduceEqDiff, Nat.reduceAdd, decide_true, decide_false, Bool.true_eq_false, Bool.false_eq_true, env0, List.getElem?_cons_zero, List.getElem?_cons_succ, zdg, zdh, zdi, zdj, zdk, zdl, zdm, zdn, ia22, ld31, zdo, zdp, zdq, zdr, zds, zdt, zdu, zdv, zdw, zdx, zdy, zdz, zea, zeb, zec, fa_0, fa_1, zed, bd_0, bd_2, zee, fd_1, zef, Nat.zero_add, zeg, List.toList_toArray, len9, ix9, zeh, zei, zej, zek, zel, e0, e1, e5, e6, e7, j6, t11, t13, t15, len46, q1, q4, encZ_fold, ad, cn, k1, k2, k3, k4, k5, k6, ext_0, ext_1, st_Z, tupZ, same_ZZ (-(N : Int)) (by omega), beq_self_eq_true, unA_not', Bool.not_false, w]
          exact finish_b _ _ _ _ _ _ _ (by simp only [zfa, ↓reduceIte]) rfl
end Go.Ab
