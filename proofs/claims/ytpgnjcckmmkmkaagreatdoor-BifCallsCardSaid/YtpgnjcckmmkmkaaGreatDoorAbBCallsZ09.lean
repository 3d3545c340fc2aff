/- Several texts put together: AbzV10, AbzV11, AbzV12, AbzV13, AbzV14, AbzV15, AbzV16, AbzV17. Conditions: as each part says. -/
import Derived.Test.YtpgnjcckmmkmkaaGreatDoorAbBCallsZ08
import Derived.Test.YtpgnjcckmmkmkaaGreatDoorAbBCallsZ06
import Derived.Test.YtpgnjcckmmkmkaaGreatDoorAbBCallsZ07
/- relictref03.Cmp of any terms. Conditions: limbs in range; so many nodes at most. -/
namespace Go.Ab
open Go.Proofs
set_option maxRecDepth 100000
set_option linter.unusedSimpArgs false

set_option maxHeartbeats 4000000 in
theorem rcmp_nil (m : Nat) (b0 : T) : evalFn Tryz.prog cfg0 100000 (m+7) 19 [.tree (encT nilT'), .tree (encT b0)] = some (.tree (.int .i64 (nilX b0)), [[], []]) := by
  rw [evalFn_go _ Tryz.func19 (by unfold Tryz.f19; rfl) (by unfold Tryz.f19; decide) (Nat.le_of_ble_eq_true (by unfold Tryz.f19; rfl)) (by kernel_rfl)]
  obtain ⟨k', n2, lg', l', s', i2, kg', ks'⟩ := b0
  have r1 := callQ_trees (f := 45) (vs := [.int .i64 3]) rfl (rrkX (m + 4) 3)
  have r2 := callQ_trees (f := 45) (vs := [.int .i64 k']) rfl (rrkX (m + 4) k')
  have r3 := callQ_trees (f := 44) (vs := [.int .i64 (rkX 3 + 1), .int .i64 (rkX k' + 1)]) rfl (rthree_eq 100000 (m + 5) _ _)
  rw [three_up] at r3
  simp only [nilX, kindT]
  by_cases g : three (rkX 3) (rkX k') = 0
  · have g' : (three (rkX 3) (rkX k') != 0) = false := by rw [g]; rfl
    rw [g]
    simp only [simB, zbo, Nat.reduceBEq, own0, ↓reduceIte, Nat.reduceEqDiff, Nat.reduceAdd, simA, simL, simN, Nat.zero_add, nilT', encT, cellsT, faT_0, ldT_0, r1, r2, r3, i_neqV, i_eqlV, Int.reduceBEq, g']
    exact finish_i _ _ _ _ _ _ _ (by simp only [zfp, ↓reduceIte, Nat.reduceEqDiff]; try rfl) rfl
  · have g' : (three (rkX 3) (rkX k') != 0) = true := by rw [bne_iff_ne]; exact g
    simp only [simB, zbo, Nat.reduceBEq, own0, ↓reduceIte, Nat.reduceEqDiff, Nat.reduceAdd, simA, simL, simN, Nat.zero_add, nilT', encT, cellsT, faT_0, ldT_0, r1, r2, r3, i_neqV, g']
    exact finish_i _ _ _ _ _ _ _ (by simp only [zfp, ↓reduceIte, Nat.reduceEqDiff]; try rfl) rfl
set_option maxHeartbeats 32000000 in
theorem rcmpX_eq : ∀ (d D : Nat) (a0 b0 : T), htT a0 ≤ d → d + 9 ≤ D → nodT a0 ≤ 1000 → bigT 9223372036854775808 a0 → bigT 9223372036854775808 b0 →
    evalFn Tryz.prog cfg0 100000 D 19 [.tree (encT a0), .tree (encT b0)] = some (.tree (.int .i64 (cmpX a0 b0)), [[], []])
  | 0, _, a0, b0, hd, _, _, _, _ => by obtain ⟨k, b, lg, l, s, m, kg, ks⟩ := a0; simp only [htT] at hd; omega
  | d + 1, D, a0, b0, hd, hD, hn, ga, gb => by
    obtain ⟨m, rfl⟩ : ∃ m, D = m + 10 := ⟨D - 10, by omega⟩
    have IH := fun a b h1 h2 h3 h4 => rcmpX_eq d (m + 9) a b h1 (by omega) h2 h3 h4
    rw [evalFn_go _ Tryz.func19 (by unfold Tryz.f19; rfl) (by unfold Tryz.f19; decide) (Nat.le_of_ble_eq_true (by unfold Tryz.f19; rfl)) (by kernel_rfl)]
    obtain ⟨k, n1, lg, l, s, i1, kg, ks⟩ := a0
    obtain ⟨k', n2, lg', l', s', i2, kg', ks'⟩ := b0
    simp only [bigT] at ga gb
    have hhk : htK ks ≤ d := by simp only [htT] at hd; omega
    have hnk : nodK ks ≤ 999 := by simp only [nodT] at hn; omega
    have hkl : ks.length ≤ 999 := by have := nodK_len ks; omega
    have r1 := callQ_trees (f := 45) (vs := [.int .i64 k]) rfl (rrkX (m + 7) k)
    have r2 := callQ_trees (f := 45) (vs := [.int .i64 k']) rfl (rrkX (m + 7) k')
    have r3 := callQ_trees (f := 44) (vs := [.int .i64 (rkX k + 1), .int .i64 (rkX k' + 1)]) rfl (rthree_eq 100000 (m + 8) _ _)
    rw [three_up] at r3
    have t3 := fun x y D st => callA_trees (cfg := cfg0) (d := D) (s := st) (f := 44) (vs := [.int .i64 x, .int .i64 y]) rfl (rthree_eq 100000 (m + 8) x y)
    have tx := fun D st => callA_trees (cfg := cfg0) (d := D) (s := st) (f := 47) (vs := [.str s, .str s']) rfl (rtext3_eq 100000 (m + 8) s s')
    have p1 : ((0 : Int) != 0) = false := rfl
    by_cases z0 : three (rkX k) (rkX k') = 0
    case neg =>
      have p2 : (three (rkX k) (rkX k') != 0) = true := by rw [bne_iff_ne]; exact z0
      have h44 : ¬ (k = 4 ∧ kindT (.mk k' n2 lg' l' s' i2 kg' ks') = 4) := fun h => z0 (by rw [h.1, show k' = 4 from h.2]; rfl)
      rw [cmpX_no k n1 lg l s i1 kg ks _ h44]
      simp only [kindT]
      rw [or2_n z0]
      simp only [simB, zbo, Nat.reduceBEq, own0, ↓reduceIte, Nat.reduceEqDiff, Nat.reduceAdd, simA, simL, simN, Nat.zero_add, encT, cellsT, faT_0, ldT_0, r1, r2, r3, i_neqV, p2]
      exact finish_i _ _ _ _ _ _ _ (by simp only [zfp, ↓reduceIte, Nat.reduceEqDiff]; try rfl) rfl
    rw [z0] at r3
    rcases rkX_eq k k' z0 with hkk | ⟨o1, o2⟩
    rotate_left
    · have b1 : (k == 1) = false := beq_eq_false_iff_ne.mpr (by omega)
      have b2 : (k == 2) = false := beq_eq_false_iff_ne.mpr (by omega)
      have b6 : (k == 6) = false := beq_eq_false_iff_ne.mpr (by omega)
      have b5 : (k == 5) = false := beq_eq_false_iff_ne.mpr (by omega)
      have b7 : (k == 7) = false := beq_eq_false_iff_ne.mpr (by omega)
      have b8 : (k == 8) = false := beq_eq_false_iff_ne.mpr (by omega)
      have b9 : (k == 9) = false := beq_eq_false_iff_ne.mpr (by omega)
      have b4 : (k == 4) = false := beq_eq_false_iff_ne.mpr (by omega)
      rw [cmpX_no k n1 lg l s i1 kg ks _ (by omega)]
      simp only [kindT]
      rw [or2_0 z0, if_neg (by omega), if_neg (by omega), if_neg (by omega), if_neg (by omega), if_neg (by omega), if_neg (by omega)]
      simp only [simB, zbo, Nat.reduceBEq, own0, ↓reduceIte, Nat.reduceEqDiff, Nat.reduceAdd, simA, simL, simN, Nat.zero_add, encT, cellsT, faT_0, ldT_0, r1, r2, r3, i_neqV, i_eqlV, p1, b1, b2, b4, b5, b6, b7, b8, b9]
      exact finish_i _ _ _ _ _ _ _ (by simp only [zfp, ↓reduceIte, Nat.reduceEqDiff]; try rfl) rfl
    subst hkk
    by_cases k4 : k = 4
    · subst k4
      have hc := cmpX_4 n1 lg l s i1 kg ks (.mk 4 n2 lg' l' s' i2 kg' ks') rfl
      simp only [kidsT] at hc
      rw [hc]
      have q0 := kid_known 9223372036854775808 (by decide) ks 0 ga.2.2
      have q1 := kid_known 9223372036854775808 (by decide) ks 1 ga.2.2
      have p0' := kid_known 9223372036854775808 (by decide) ks' 0 gb.2.2
      have p1' := kid_known 9223372036854775808 (by decide) ks' 1 gb.2.2
      have pa0 := callQ_trees (f := 48) (vs := [encT (.mk 4 n1 lg l s i1 kg ks), .int .i64 ((0 : Nat) : Int)]) rfl (partX_eq 100000 (m + 8) 4 n1 lg l s i1 kg ks 0)
      have pa1 := callQ_trees (f := 48) (vs := [encT (.mk 4 n1 lg l s i1 kg ks), .int .i64 ((1 : Nat) : Int)]) rfl (partX_eq 100000 (m + 8) 4 n1 lg l s i1 kg ks 1)
      have pb0 := callQ_trees (f := 48) (vs := [encT (.mk 4 n2 lg' l' s' i2 kg' ks'), .int .i64 ((0 : Nat) : Int)]) rfl (partX_eq 100000 (m + 8) 4 n2 lg' l' s' i2 kg' ks' 0)
      have pb1 := callQ_trees (f := 48) (vs := [encT (.mk 4 n2 lg' l' s' i2 kg' ks'), .int .i64 ((1 : Nat) : Int)]) rfl (partX_eq 100000 (m + 8) 4 n2 lg' l' s' i2 kg' ks' 1)
      have hh : ∀ i, evalFn Tryz.prog cfg0 100000 (m+9) 19 [.tree (encT (ks.getD i nilT')), .tree (encT (ks'.getD i nilT'))] = some (.tree (.int .i64 (cmpX (ks.getD i nilT') (ks'.getD i nilT'))), [[], []]) := fun i => by
        have qi := kid_known 9223372036854775808 (by decide) ks i ga.2.2
        have pi := kid_known 9223372036854775808 (by decide) ks' i gb.2.2
        rcases getD_kid ks i with h | ⟨r, h⟩
        · rw [h, cmpX_nil]; exact rcmp_nil (m+2) _
        · have := kids_ht ks i _ r h
          exact IH _ _ (by omega) (by omega) qi.1 pi.1
      have h0 := hh 0
      have h1 := hh 1
      clear hh
      generalize ks.getD 0 nilT' = x at q0 pa0 h0
      generalize ks.getD 1 nilT' = y at q1 pa1 h1
      generalize ks'.getD 0 nilT' = x' at p0' pb0 h0
      generalize ks'.getD 1 nilT' = y' at p1' pb1 h1
      have ca := callQ_trees (f := 19) (vs := [encT x, encT x']) rfl h0
      have cb := callQ_trees (f := 19) (vs := [encT y, encT y']) rfl h1
      simp only [encT] at ca cb
      simp only [encT, cellsT] at pa0 pa1 pb0 pb1
      simp only [simB, zbo, Nat.reduceBEq, own0, ↓reduceIte, Nat.reduceEqDiff, Nat.reduceAdd, simA, simL, simN, Nat.zero_add, encT, cellsT, faT_0, ldT_0, Nat.reduceAdd, r1, r2, r3, i_neqV, i_eqlV, Int.reduceBEq, p1, den_loop]
      refine loop_ends (X := Nat) (fun i env st => env 2 = .ptr 2 1 0 ∧ env 3 = .ptr 3 1 0 ∧ st 2 = ⟨1, .buf (cellsT (.mk 4 n1 lg l s i1 kg ks))⟩ ∧ st 3 = ⟨1, .buf (cellsT (.mk 4 n2 lg' l' s' i2 kg' ks'))⟩ ∧ env 11 = .int .i64 (i : Int) ∧ (i = 0 ∨ (i = 1 ∧ cmpX x x' = 0) ∨ (i = 2 ∧ cmpX x x' = 0 ∧ cmpX y y' = 0))) (fun i => 3 - i) (fun _ => (.tree (.int .i64 (or2 (cmpX x x') (cmpX y y'))), [[], []])) ?_ 100000 0 _ _ (by omega) ⟨(by simp only [zfp, ↓reduceIte, Nat.reduceEqDiff]; try rfl), (by simp only [zfp, ↓reduceIte, Nat.reduceEqDiff]; try rfl), (by simp only [zfp, ↓reduceIte, Nat.reduceEqDiff]; try rfl), (by simp only [zfp, ↓reduceIte, Nat.reduceEqDiff]; try rfl), (by simp only [zfp, ↓reduceIte, Nat.reduceEqDiff]; try rfl), .inl rfl⟩
      intro rr i hx ih env st ⟨e2, e3, j2, j3, e11, hc⟩
      simp only [cellsT] at j2 j3
      rcases hc with rfl | ⟨rfl, z⟩ | ⟨rfl, z, z2⟩
      · have q1 : ((0 : Nat) : Int) < 2 := by decide
        have f5 := i_add Tryz.prog 3 ((0 : Nat) : Int) 1 (by omega) (by omega)
        by_cases z : cmpX x x' = 0
        · rw [z] at ca
          simp only [simB, zbo, Nat.reduceBEq, own0, ↓reduceIte, Nat.reduceEqDiff, Nat.reduceAdd, simL, simN, Nat.zero_add, e2, e3, j2, j3, e11, ldT_a, q1, pa0, pb0, ca, i_neqV, p1, f5]
          exact ih 1 _ _ (by omega) rfl ⟨(by simp only [zfp, ↓reduceIte, Nat.reduceEqDiff, e2]; try rfl), (by simp only [zfp, ↓reduceIte, Nat.reduceEqDiff, e3]; try rfl), by simp only [cellsT]; exact j2, by simp only [cellsT]; exact j3, (by simp only [zfp, ↓reduceIte, Nat.reduceEqDiff]; try rfl), .inr (.inl ⟨rfl, z⟩)⟩
        · have p3 : (cmpX x x' != 0) = true := by rw [bne_iff_ne]; exact z
          rw [or2_n z]
          simp only [simB, zbo, Nat.reduceBEq, own0, ↓reduceIte, Nat.reduceEqDiff, Nat.reduceAdd, simL, simN, Nat.zero_add, e2, e3, j2, j3, e11, ldT_a, q1, pa0, pb0, ca, i_neqV, p3]
          exact finish_i _ _ _ _ _ _ _ (by simp only [zfp, ↓reduceIte, Nat.reduceEqDiff]; try rfl) rfl
      · have q1 : ((1 : Nat) : Int) < 2 := by decide
        have f5 := i_add Tryz.prog 3 ((1 : Nat) : Int) 1 (by omega) (by omega)
        rw [or2_0 z] at ih ⊢
        by_cases z2 : cmpX y y' = 0
        · rw [z2] at cb
          simp only [simB, zbo, Nat.reduceBEq, own0, ↓reduceIte, Nat.reduceEqDiff, Nat.reduceAdd, simL, simN, Nat.zero_add, e2, e3, j2, j3, e11, ldT_a, q1, pa1, pb1, cb, i_neqV, p1, f5]
          exact ih 2 _ _ (by omega) rfl ⟨(by simp only [zfp, ↓reduceIte, Nat.reduceEqDiff, e2]; try rfl), (by simp only [zfp, ↓reduceIte, Nat.reduceEqDiff, e3]; try rfl), by simp only [cellsT]; exact j2, by simp only [cellsT]; exact j3, (by simp only [zfp, ↓reduceIte, Nat.reduceEqDiff]; try rfl), .inr (.inr ⟨rfl, z, z2⟩)⟩
        · have p3 : (cmpX y y' != 0) = true := by rw [bne_iff_ne]; exact z2
          simp only [simB, zbo, Nat.reduceBEq, own0, ↓reduceIte, Nat.reduceEqDiff, Nat.reduceAdd, simL, simN, Nat.zero_add, e2, e3, j2, j3, e11, ldT_a, q1, pa1, pb1, cb, i_neqV, p3]
          exact finish_i _ _ _ _ _ _ _ (by simp only [zfp, ↓reduceIte, Nat.reduceEqDiff]; try rfl) rfl
      · have q1 : ¬ ((2 : Nat) : Int) < 2 := by decide
        rw [or2_0 z, z2]
        simp only [simB, zbo, Nat.reduceBEq, own0, ↓reduceIte, Nat.reduceEqDiff, Nat.reduceAdd, simL, simN, Nat.zero_add, e2, e3, j2, j3, e11, q1]
        exact finish_i _ _ _ _ _ _ _ (by simp only [zfp, ↓reduceIte, Nat.reduceEqDiff]; try rfl) rfl
    have b4 : (k == 4) = false := beq_eq_false_iff_ne.mpr k4
    have hc := cmpX_no k n1 lg l s i1 kg ks (.mk k n2 lg' l' s' i2 kg' ks') (fun h => k4 h.1)
    simp only [kindT, kidsT, strT, numT, nT] at hc
    rw [or2_0 z0] at hc
    rw [hc]
    clear hc
    have cn := fun D st => callA_trees (cfg := cfg0) (d := D) (s := st) (f := 46) (vs := [encA n1 lg l, encA n2 lg' l']) (by cases lg <;> cases lg' <;> rfl) (rncmp_eq 100000 (m + 5) (Nat.le_refl _) (isN_A n1 lg l ga.1) (isN_A n2 lg' l' gb.1))
    simp only [encA] at cn
    have cc : k = 1 ∨ k = 2 ∨ k = 6 ∨ k = 9 ∨ k = 8 ∨ (k = 5 ∨ k = 7) ∨ (k ≠ 1 ∧ k ≠ 2 ∧ k ≠ 6 ∧ k ≠ 5 ∧ k ≠ 7 ∧ k ≠ 8 ∧ k ≠ 9) := by omega
    rcases cc with rfl | rfl | rfl | rfl | rfl | h57 | ⟨x1, x2, x6, x5, x7, x8, x9⟩
    · have p1 : ((0 : Int) != 0) = false := rfl
      simp only [simB, zbo, Nat.reduceBEq, own0, ↓reduceIte, Nat.reduceEqDiff, Nat.reduceAdd, simA, simL, simN, Nat.zero_add, encT, cellsT, faT_0, faT_1, faT_2, faT_3, ldT_0, ldT_1, ldT_2, ldT_3, Nat.reduceAdd, r1, r2, r3, i_neqV, i_eqlV, Int.reduceBEq, Int.reduceEq, true_or, or_true, false_or, or_false, ↓reduceIte, p1, cn]
      exact finish_i _ _ _ _ _ _ _ (by simp only [zfp, ↓reduceIte, Nat.reduceEqDiff]; try rfl) rfl
    · have p1 : ((0 : Int) != 0) = false := rfl
      simp only [simB, zbo, Nat.reduceBEq, own0, ↓reduceIte, Nat.reduceEqDiff, Nat.reduceAdd, simA, simL, simN, Nat.zero_add, encT, cellsT, faT_0, faT_1, faT_2, faT_3, ldT_0, ldT_1, ldT_2, ldT_3, Nat.reduceAdd, r1, r2, r3, i_neqV, i_eqlV, Int.reduceBEq, Int.reduceEq, true_or, or_true, false_or, or_false, ↓reduceIte, p1, tx]
      exact finish_i _ _ _ _ _ _ _ (by simp only [zfp, ↓reduceIte, Nat.reduceEqDiff]; try rfl) rfl
    · have p1 : ((0 : Int) != 0) = false := rfl
      simp only [simB, zbo, Nat.reduceBEq, own0, ↓reduceIte, Nat.reduceEqDiff, Nat.reduceAdd, simA, simL, simN, Nat.zero_add, encT, cellsT, faT_0, faT_1, faT_2, faT_3, ldT_0, ldT_1, ldT_2, ldT_3, Nat.reduceAdd, r1, r2, r3, i_neqV, i_eqlV, Int.reduceBEq, Int.reduceEq, true_or, or_true, false_or, or_false, ↓reduceIte, p1, tx]
      exact finish_i _ _ _ _ _ _ _ (by simp only [zfp, ↓reduceIte, Nat.reduceEqDiff]; try rfl) rfl
    · have p1 : ((0 : Int) != 0) = false := rfl
      simp only [simB, zbo, Nat.reduceBEq, own0, ↓reduceIte, Nat.reduceEqDiff, Nat.reduceAdd, simA, simL, simN, Nat.zero_add, encT, cellsT, faT_0, faT_1, faT_2, faT_3, ldT_0, ldT_1, ldT_2, ldT_3, Nat.reduceAdd, r1, r2, r3, i_neqV, i_eqlV, Int.reduceBEq, Int.reduceEq, true_or, or_true, false_or, or_false, ↓reduceIte, p1, t3]
      exact finish_i _ _ _ _ _ _ _ (by simp only [zfp, ↓reduceIte, Nat.reduceEqDiff]; try rfl) rfl
    · by_cases zs : strC s s' = 0
      · have p2 : (strC s s' != 0) = false := by rw [zs]; rfl
        simp only [Int.reduceEq, or_self, ↓reduceIte]
        rw [or2_0 zs]
        simp only [simB, zbo, Nat.reduceBEq, own0, ↓reduceIte, Nat.reduceEqDiff, Nat.reduceAdd, simA, simL, simN, Nat.zero_add, encT, cellsT, faT_0, faT_1, faT_2, faT_3, ldT_0, ldT_1, ldT_2, ldT_3, Nat.reduceAdd, r1, r2, r3, i_neqV, i_eqlV, Int.reduceBEq, p1, tx, p2, t3]
        exact finish_i _ _ _ _ _ _ _ (by simp only [zfp, ↓reduceIte, Nat.reduceEqDiff]; try rfl) rfl
      · have p2 : (strC s s' != 0) = true := by rw [bne_iff_ne]; exact zs
        simp only [Int.reduceEq, or_self, ↓reduceIte]
        rw [or2_n zs]
        simp only [simB, zbo, Nat.reduceBEq, own0, ↓reduceIte, Nat.reduceEqDiff, Nat.reduceAdd, simA, simL, simN, Nat.zero_add, encT, cellsT, faT_0, faT_1, faT_2, faT_3, ldT_0, ldT_1, ldT_2, ldT_3, Nat.reduceAdd, r1, r2, r3, i_neqV, i_eqlV, Int.reduceBEq, p1, tx, p2]
        exact finish_i _ _ _ _ _ _ _ (by simp only [zfp, ↓reduceIte, Nat.reduceEqDiff]; try rfl) rfl
    · have hB : ∀ P : Prop, (P → P) := fun _ h => h
      have b1 : (k == 1) = false := beq_eq_false_iff_ne.mpr (by omega)
      have b2 : (k == 2) = false := beq_eq_false_iff_ne.mpr (by omega)
      have b6 : (k == 6) = false := beq_eq_false_iff_ne.mpr (by omega)
      have b8 : (k == 8) = false := beq_eq_false_iff_ne.mpr (by omega)
      have b9 : (k == 9) = false := beq_eq_false_iff_ne.mpr (by omega)
      rw [if_neg (by omega), if_neg (by omega)]
      have hfun : k = 7 ∧ three i1 i2 ≠ 0 ∨ (k = 5 ∨ (k = 7 ∧ three i1 i2 = 0)) := by omega
      rcases hfun with ⟨h7, hz⟩ | hno
      · subst h7
        have p2 : (three i1 i2 != 0) = true := by rw [bne_iff_ne]; exact hz
        simp only [Int.reduceEq, or_self, ↓reduceIte]
        rw [or2_n hz]
        simp only [simB, zbo, Nat.reduceBEq, own0, ↓reduceIte, Nat.reduceEqDiff, Nat.reduceAdd, simA, simL, simN, Nat.zero_add, encT, cellsT, faT_0, faT_1, faT_2, faT_3, ldT_0, ldT_1, ldT_2, ldT_3, Nat.reduceAdd, r1, r2, r3, i_neqV, i_eqlV, Int.reduceBEq, p1, t3, p2]
        exact finish_i _ _ _ _ _ _ _ (by simp only [zfp, ↓reduceIte, Nat.reduceEqDiff]; try rfl) rfl
      · have hif : (if k = 7 then or2 (three i1 i2) (or2 (three ks.length ks'.length) (cmpXL ks ks')) else if k = 5 then or2 (three ks.length ks'.length) (cmpXL ks ks') else if k = 8 then or2 (strC s s') (three i1 i2) else if k = 9 then three i1 i2 else 0) = or2 (three ks.length ks'.length) (cmpXL ks ks') := by
          rcases hno with h5 | ⟨h7, hz⟩
          · rw [if_neg (by omega), if_pos h5]
          · rw [if_pos h7, or2_0 hz]
        rw [hif]
        have hg : (k = 5 ∧ (k == 7) = false ∧ (k == 5) = true) ∨ (k = 7 ∧ (k == 7) = true ∧ (three i1 i2 != 0) = false) := by
          rcases hno with h5 | ⟨h7, hz⟩
          · left; subst h5; exact ⟨rfl, rfl, rfl⟩
          · right; subst h7; exact ⟨rfl, rfl, by rw [hz]; rfl⟩
        by_cases hll : ks.length = ks'.length
        rotate_left
        · have z : three (ks.length : Int) (ks'.length : Int) ≠ 0 := fun e => hll (by rw [three_zero] at e; omega)
          have p2 : (three (ks.length : Int) (ks'.length : Int) != 0) = true := by rw [bne_iff_ne]; exact z
          rw [or2_n z]
          rcases hg with ⟨-, g1, g2⟩ | ⟨-, g1, g2⟩ <;>
          · simp only [simB, zbo, Nat.reduceBEq, own0, ↓reduceIte, Nat.reduceEqDiff, Nat.reduceAdd, simA, simL, simN, Nat.zero_add, encT, cellsT, faT_0, faT_3, faT_4, ldT_0, ldT_3, ldT_4, Nat.reduceAdd, r1, r2, r3, i_neqV, i_eqlV, b1, b2, b6, b8, b9, g1, g2, p1, lenTk, t3, p2]
            exact finish_i _ _ _ _ _ _ _ (by simp only [zfp, ↓reduceIte, Nat.reduceEqDiff]; try rfl) rfl
        have z : three (ks.length : Int) (ks'.length : Int) = 0 := by rw [three_zero]; omega
        rw [or2_0 z]
        have p3 : (three (ks.length : Int) (ks'.length : Int) != 0) = false := by rw [z]; rfl
        rcases hg with ⟨-, g1, g2⟩ | ⟨-, g1, g2⟩ <;>
        · simp only [simB, zbo, Nat.reduceBEq, own0, ↓reduceIte, Nat.reduceEqDiff, Nat.reduceAdd, simA, simL, simN, Nat.zero_add, encT, cellsT, faT_0, faT_3, faT_4, ldT_0, ldT_3, ldT_4, Nat.reduceAdd, r1, r2, r3, i_neqV, i_eqlV, b1, b2, b6, b8, b9, g1, g2, p1, lenTk, t3, p3, den_loop]
          refine loop_ends (X := Nat) (fun i env st => env 2 = .ptr 2 1 0 ∧ env 3 = .ptr 3 1 0 ∧ st 2 = ⟨1, .buf (cellsT (.mk k n1 lg l s i1 kg ks))⟩ ∧ st 3 = ⟨1, .buf (cellsT (.mk k n2 lg' l' s' i2 kg' ks'))⟩ ∧ env 9 = .int .i64 (i : Int) ∧ i ≤ ks.length ∧ cmpXL (ks.drop i) (ks'.drop i) = cmpXL ks ks') (fun i => ks.length - i) (fun _ => (.tree (.int .i64 (cmpXL ks ks')), [[], []])) ?_ 100000 0 _ _ (by omega) ⟨(by simp only [zfp, ↓reduceIte, Nat.reduceEqDiff]; try rfl), (by simp only [zfp, ↓reduceIte, Nat.reduceEqDiff]; try rfl), (by simp only [zfp, ↓reduceIte, Nat.reduceEqDiff]; try rfl), (by simp only [zfp, ↓reduceIte, Nat.reduceEqDiff]; try rfl), (by simp only [zfp, ↓reduceIte, Nat.reduceEqDiff]; try rfl), Nat.zero_le _, rfl⟩
          intro rr i hx ih env st ⟨e2, e3, j2, j3, e9, hi, hc⟩
          simp only [cellsT] at j2 j3
          cases hda : ks.drop i with
          | nil =>
            have hil : i = ks.length := by have := congrArg List.length hda; simp only [List.length_drop, List.length_nil] at this; omega
            have q1 : ¬ ((i : Int) < (ks.length : Int)) := by omega
            have hdb : ks'.drop i = [] := List.drop_eq_nil_of_le (by omega)
            rw [hda, hdb] at hc
            simp only [cmpXL] at hc
            rw [← hc]
            simp only [simB, zbo, Nat.reduceBEq, own0, ↓reduceIte, Nat.reduceEqDiff, Nat.reduceAdd, simL, simN, Nat.zero_add, e2, e3, j2, j3, e9, faT_4, ldT_4, Nat.reduceAdd, lenTk, q1]
            exact finish_i _ _ _ _ _ _ _ (by simp only [zfp, ↓reduceIte, Nat.reduceEqDiff]; try rfl) rfl
          | cons x q =>
            have hil : i < ks.length := by have := congrArg List.length hda; simp only [List.length_drop, List.length_cons] at this; omega
            have hjl : i < ks'.length := by omega
            have q1 : (i : Int) < (ks.length : Int) := by omega
            have ia := fun st => ia_K st ks (gr kg) i hil
            rw [hda] at ia hc
            have ld := fun st => ld_K st x q
            simp only [encT] at ld
            cases hdb : ks'.drop i with
            | nil => have := congrArg List.length hdb; simp only [List.length_drop, List.length_nil] at this; omega
            | cons y r =>
              have ib := fun st => ia_K st ks' (gr kg') i hjl
              rw [hdb] at ib hc
              have ldb := fun st => ld_K st y r
              simp only [encT] at ldb
              simp only [cmpXL] at hc
              have gx := bigK_at _ ks i x q hda ga.2.2
              have gy := bigK_at _ ks' i y r hdb gb.2.2
              have hxn := kids_nod ks i x q hda
              have hx := kids_ht ks i x q hda
              have cc := callQ_trees (f := 19) (vs := [encT x, encT y]) rfl (IH x y (by omega) (by omega) gx gy)
              simp only [encT] at cc
              have f5 := i_add Tryz.prog 3 (i : Int) 1 (by omega) (by omega)
              by_cases z : cmpX x y = 0
              · rw [or2_0 z] at hc
                rw [z] at cc
                simp only [simB, zbo, Nat.reduceBEq, own0, ↓reduceIte, Nat.reduceEqDiff, Nat.reduceAdd, simL, simN, Nat.zero_add, e2, e3, j2, j3, e9, faT_4, ldT_4, Nat.reduceAdd, lenTk, q1, ia, ib, ld, ldb, cc, i_neqV, p1, f5]
                exact ih (i + 1) _ _ (by omega) rfl ⟨(by simp only [zfp, ↓reduceIte, Nat.reduceEqDiff, e2]; try rfl), (by simp only [zfp, ↓reduceIte, Nat.reduceEqDiff, e3]; try rfl), by simp only [cellsT]; exact j2, by simp only [cellsT]; exact j3, (by simp only [zfp, ↓reduceIte, Nat.reduceEqDiff]; try rfl), by omega, by rw [drop_next hda, drop_next hdb]; exact hc⟩
              · rw [or2_n z] at hc
                have p3 : (cmpX x y != 0) = true := by rw [bne_iff_ne]; exact z
                rw [← hc]
                simp only [simB, zbo, Nat.reduceBEq, own0, ↓reduceIte, Nat.reduceEqDiff, Nat.reduceAdd, simL, simN, Nat.zero_add, e2, e3, j2, j3, e9, faT_4, ldT_4, Nat.reduceAdd, lenTk, q1, ia, ib, ld, ldb, cc, i_neqV, p3]
                exact finish_i _ _ _ _ _ _ _ (by simp only [zfp, ↓reduceIte, Nat.reduceEqDiff]; try rfl) rfl
    · have b1 : (k == 1) = false := beq_eq_false_iff_ne.mpr x1
      have b2 : (k == 2) = false := beq_eq_false_iff_ne.mpr x2
      have b6 : (k == 6) = false := beq_eq_false_iff_ne.mpr x6
      have b5 : (k == 5) = false := beq_eq_false_iff_ne.mpr x5
      have b7 : (k == 7) = false := beq_eq_false_iff_ne.mpr x7
      have b8 : (k == 8) = false := beq_eq_false_iff_ne.mpr x8
      have b9 : (k == 9) = false := beq_eq_false_iff_ne.mpr x9
      rw [if_neg x1, if_neg (by omega), if_neg x7, if_neg x5, if_neg x8, if_neg x9]
      simp only [simB, zbo, Nat.reduceBEq, own0, ↓reduceIte, Nat.reduceEqDiff, Nat.reduceAdd, simA, simL, simN, Nat.zero_add, encT, cellsT, faT_0, ldT_0, r1, r2, r3, i_neqV, i_eqlV, p1, b1, b2, b4, b5, b6, b7, b8, b9]
      exact finish_i _ _ _ _ _ _ _ (by simp only [zfp, ↓reduceIte, Nat.reduceEqDiff]; try rfl) rfl
end Go.Ab

/- What does not ask for rows' room: sameness, order, items, lists. No conditions. -/
namespace Go.Ab
open Go.Proofs
set_option maxRecDepth 100000
set_option linter.unusedSimpArgs false

theorem kind_bare (t : T) : kindT (bareT t) = kindT t := by obtain ⟨k, b, lg, l, s, m, kg, ks⟩ := t; rfl
theorem kids_bare (t : T) : kidsT (bareT t) = bareK (kidsT t) := by obtain ⟨k, b, lg, l, s, m, kg, ks⟩ := t; rfl
theorem str_bare (t : T) : strT (bareT t) = strT t := by obtain ⟨k, b, lg, l, s, m, kg, ks⟩ := t; rfl
theorem num_bare (t : T) : numT (bareT t) = numT t := by obtain ⟨k, b, lg, l, s, m, kg, ks⟩ := t; rfl
theorem n_bare (t : T) : nT (bareT t) = nT t := by obtain ⟨k, b, lg, l, s, m, kg, ks⟩ := t; rfl
theorem sgn_bare (t : T) : sgnT (bareT t) = sgnT t := by obtain ⟨k, b, lg, l, s, m, kg, ks⟩ := t; rfl
theorem lim_bare (t : T) : limT (bareT t) = limT t := by obtain ⟨k, b, lg, l, s, m, kg, ks⟩ := t; rfl
mutual
theorem same_bare : ∀ a b : T, sameT (bareT a) (bareT b) = sameT a b
  | .mk k b lg l s n kg ks, u => by
    have h := sameK_bare ks (kidsT u)
    simp only [bareT, sameT, kind_bare, sgn_bare, lim_bare, str_bare, n_bare, kids_bare, h]
theorem sameK_bare : ∀ a b : List T, sameK (bareK a) (bareK b) = sameK a b
  | [], [] => rfl
  | [], _ :: _ => by simp only [bareK, sameK]
  | _ :: _, [] => by simp only [bareK, sameK]
  | x :: r, y :: q => by simp only [bareK, sameK, same_bare x y, sameK_bare r q]
end
theorem headD_bare (v : List T) : (bareK v).headD nilT' = bareT (v.headD nilT') := by cases v <;> rfl
theorem tail_bare (v : List T) : (bareK v).tail = bareK v.tail := by cases v <;> rfl
theorem nilX_bare (u : T) : nilX (bareT u) = nilX u := by simp only [nilX, kind_bare]
mutual
theorem cmp_bare : ∀ a b : T, cmpX (bareT a) (bareT b) = cmpX a b
  | .mk k b lg l s n kg ks, u => by
    have h := cmpL_bare ks (kidsT u)
    have h2 := cmpC_bare ks (kidsT u)
    simp only [bareT, cmpX, kind_bare, str_bare, n_bare, num_bare, kids_bare, bareK_len, h, h2]
theorem cmpC_bare : ∀ a b : List T, cmpXC (bareK a) (bareK b) = cmpXC a b
  | [], v => by simp only [bareK, cmpXC, headD_bare, tail_bare, nilX_bare]
  | x :: r, v => by simp only [bareK, cmpXC, headD_bare, tail_bare, cmp_bare x, cmpD_bare r]
theorem cmpD_bare : ∀ a b : List T, cmpXD (bareK a) (bareK b) = cmpXD a b
  | [], v => by simp only [bareK, cmpXD, headD_bare, nilX_bare]
  | x :: r, v => by simp only [bareK, cmpXD, headD_bare, cmp_bare x]
theorem cmpL_bare : ∀ a b : List T, cmpXL (bareK a) (bareK b) = cmpXL a b
  | [], [] => rfl
  | [], _ :: _ => by simp only [bareK, cmpXL]
  | _ :: _, [] => by simp only [bareK, cmpXL]
  | x :: r, y :: q => by simp only [bareK, cmpXL, cmp_bare x y, cmpL_bare r q]
end
theorem same_eqB {a b a' b' : T} (h : bareT a = bareT a') (h' : bareT b = bareT b') : sameT a b = sameT a' b' := by rw [← same_bare, h, h', same_bare]
theorem cmp_eqB {a b a' b' : T} (h : bareT a = bareT a') (h' : bareT b = bareT b') : cmpX a b = cmpX a' b' := by rw [← cmp_bare, h, h', cmp_bare]
mutual
theorem nod_bare : ∀ t : T, nodT (bareT t) = nodT t
  | .mk k b lg l s n kg ks => by simp only [bareT, nodT, nodK_bare ks]
theorem nodK_bare : ∀ ks : List T, nodK (bareK ks) = nodK ks
  | [] => rfl
  | t :: r => by simp only [bareK, nodK, nod_bare t, nodK_bare r]
end
theorem nod_eqB {a b : T} (h : bareT a = bareT b) : nodT a = nodT b := by rw [← nod_bare, h, nod_bare]
theorem bareK_app : ∀ a b : List T, bareK (a ++ b) = bareK a ++ bareK b
  | [], b => rfl
  | x :: r, b => by simp only [List.cons_append, bareK, bareK_app r b]
theorem bareK_map : ∀ ks : List T, bareK ks = ks.map bareT
  | [] => rfl
  | t :: r => by simp only [bareK, List.map_cons, bareK_map r]
theorem itT_bareK : ∀ (r : Nat) (t t' : T) (acc acc' : List T), bareT t = bareT t' → bareK acc = bareK acc' → (itT r t acc).map bareK = (itT r t' acc').map bareK
  | 0, _, _, _, _, _, _ => rfl
  | r + 1, .mk k b lg l s n kg ks, .mk k' b' lg' l' s' n' kg' ks', acc, acc', h, ha => by
    simp only [bareT, T.mk.injEq, true_and] at h
    obtain ⟨rfl, rfl, rfl, rfl, rfl, hb⟩ := h
    by_cases k3 : k = 3
    · rw [itR_k3 _ _ _ _ _ _ _ _ _ _ k3, itR_k3 _ _ _ _ _ _ _ _ _ _ k3]; simp [ha]
    by_cases k4 : k = 4
    · have hl : ks.length = ks'.length := by have := congrArg List.length hb; rwa [bareK_len, bareK_len] at this
      by_cases k2 : ks.length = 2
      · obtain ⟨x, u, rfl⟩ : ∃ x u, ks = [x, u] := by
          match ks, k2 with
          | [x, u], _ => exact ⟨x, u, rfl⟩
        obtain ⟨x', u', rfl⟩ : ∃ x u, ks' = [x, u] := by
          match ks', hl with
          | [x, u], _ => exact ⟨x, u, rfl⟩
        rw [itR_2 _ _ _ _ _ _ _ _ _ _ _ k3 k4, itR_2 _ _ _ _ _ _ _ _ _ _ _ k3 k4]
        simp only [bareK, List.cons.injEq] at hb
        exact itT_bareK r u u' _ _ hb.2.1 (by rw [bareK_app, bareK_app, ha]; simp only [bareK, hb.1])
      · rw [itR_n2 _ _ _ _ _ _ _ _ _ _ k3 k4 k2, itR_n2 _ _ _ _ _ _ _ _ _ _ k3 k4 (by omega)]
    · rw [itR_no _ _ _ _ _ _ _ _ _ _ k3 k4, itR_no _ _ _ _ _ _ _ _ _ _ k3 k4]
theorem items_eqB {t t' : T} (h : bareT t = bareT t') : (itemsT t = none ∧ itemsT t' = none) ∨ ∃ us us', itemsT t = some us ∧ itemsT t' = some us' ∧ bareK us = bareK us' := by
  have e := itT_bareK 2001 t t' [] [] h rfl
  change (itemsT t).map bareK = (itemsT t').map bareK at e
  cases h1 : itemsT t with
  | none =>
    cases h2 : itemsT t' with
    | none => exact .inl ⟨rfl, rfl⟩
    | some u => rw [h1, h2] at e; cases e
  | some us =>
    cases h2 : itemsT t' with
    | none => rw [h1, h2] at e; cases e
    | some us' =>
      rw [h1, h2] at e
      simp only [Option.map_some, Option.some.injEq] at e
      exact .inr ⟨us, us', rfl, rfl, e⟩
theorem list_eqB : ∀ {us us' : List T} {t t' : T}, bareK us = bareK us' → bareT t = bareT t' → bareT (listT us t) = bareT (listT us' t')
  | [], [], t, t', _, h => h
  | [], _ :: _, _, _, h, _ => by cases h
  | _ :: _, [], _, _, h, _ => by cases h
  | a :: r, b :: q, t, t', h, h' => by
    simp only [bareK, List.cons.injEq] at h
    simp only [listT, consT, bareT, bareK, h.1, list_eqB h.2 h']
theorem rev_eqB {us us' : List T} (h : bareK us = bareK us') : bareK us.reverse = bareK us'.reverse := by
  rw [bareK_map, bareK_map] at h ⊢
  rw [List.map_reverse, List.map_reverse, h]
theorem set_eqB {us us' : List T} (h : bareK us = bareK us') (i : Nat) {w w' : T} (hw : bareT w = bareT w') : bareK (us.set i w) = bareK (us'.set i w') := by
  rw [bareK_map, bareK_map] at h ⊢
  rw [List.map_set, List.map_set, h, hw]
theorem len_eqB {us us' : List T} (h : bareK us = bareK us') : us.length = us'.length := by
  have := congrArg List.length h
  rwa [bareK_len, bareK_len] at this
def memX (a : T) (us : List T) : Bool := us.any fun x => sameT x a
theorem mem_eqB : ∀ {us us' : List T} {a a' : T}, bareK us = bareK us' → bareT a = bareT a' → memX a us = memX a' us'
  | [], [], _, _, _, _ => rfl
  | [], _ :: _, _, _, h, _ => by cases h
  | _ :: _, [], _, _, h, _ => by cases h
  | x :: r, y :: q, a, a', h, h' => by
    simp only [bareK, List.cons.injEq] at h
    have := mem_eqB h.2 h'
    unfold memX at this ⊢
    simp only [List.any_cons, same_eqB h.1 h', this]
theorem memX_drop (a : T) (us : List T) (i : Nat) (x : T) (q : List T) (h : us.drop i = x :: q) : memX a (us.drop i) = (sameT x a || memX a (us.drop (i + 1))) := by
  rw [drop_next h, h]; rfl
theorem okX_nod (t : T) (h : fewT 100000 t) (hn : nodT t ≤ 2000) : okX t := ⟨h, by have := ht_nod t; omega⟩
theorem fewK_mem {m : Nat} : ∀ {ks : List T}, fewK m ks → ∀ t ∈ ks, fewT m t
  | [], _, t, h => by cases h
  | a :: r, h, t, ht => by
    simp only [fewK] at h
    rcases List.mem_cons.1 ht with rfl | ht
    · exact h.1
    · exact fewK_mem h.2 t ht
theorem fewK_of {m : Nat} : ∀ {ks : List T}, (∀ t ∈ ks, fewT m t) → fewK m ks
  | [], _ => trivial
  | a :: r, h => by
    simp only [fewK]
    exact ⟨h a (by simp), fewK_of fun t ht => h t (by simp [ht])⟩
theorem itT_few (m : Nat) : ∀ (r : Nat) (t : T) (acc us : List T), itT r t acc = some us → fewT m t → fewK m acc → fewK m us
  | 0, _, _, _, h, _, _ => by cases h
  | r + 1, .mk k b lg l s n kg ks, acc, us, h, ht, ha => by
    by_cases k3 : k = 3
    · rw [itR_k3 _ _ _ _ _ _ _ _ _ _ k3] at h; cases h; exact ha
    by_cases k4 : k = 4
    · by_cases k2 : ks.length = 2
      · obtain ⟨x, u, rfl⟩ : ∃ x u, ks = [x, u] := by
          match ks, k2 with
          | [x, u], _ => exact ⟨x, u, rfl⟩
        rw [itR_2 _ _ _ _ _ _ _ _ _ _ _ k3 k4] at h
        simp only [fewT, fewK] at ht
        refine itT_few m r u _ us h ht.2.2.2.1 (fewK_of fun t hm => ?_)
        rcases List.mem_append.1 hm with hm | hm
        · exact fewK_mem ha t hm
        · simp only [List.mem_singleton] at hm; subst hm; exact ht.2.2.1
      · rw [itR_n2 _ _ _ _ _ _ _ _ _ _ k3 k4 k2] at h; cases h
    · rw [itR_no _ _ _ _ _ _ _ _ _ _ k3 k4] at h; cases h
theorem itT_nod : ∀ (r : Nat) (t : T) (acc us : List T), itT r t acc = some us → us.length + nodK us + 1 ≤ acc.length + nodK acc + nodT t
  | 0, _, _, _, h => by cases h
  | r + 1, .mk k b lg l s n kg ks, acc, us, h => by
    by_cases k3 : k = 3
    · rw [itR_k3 _ _ _ _ _ _ _ _ _ _ k3] at h; cases h; simp only [nodT]; omega
    by_cases k4 : k = 4
    · by_cases k2 : ks.length = 2
      · obtain ⟨x, u, rfl⟩ : ∃ x u, ks = [x, u] := by
          match ks, k2 with
          | [x, u], _ => exact ⟨x, u, rfl⟩
        rw [itR_2 _ _ _ _ _ _ _ _ _ _ _ k3 k4] at h
        have := itT_nod r u _ us h
        rw [nodK_app] at this
        simp only [List.length_append, List.length_cons, List.length_nil, nodK, nodT] at this ⊢
        omega
      · rw [itR_n2 _ _ _ _ _ _ _ _ _ _ k3 k4 k2] at h; cases h
    · rw [itR_no _ _ _ _ _ _ _ _ _ _ k3 k4] at h; cases h
theorem items_nod (t : T) (us : List T) (h : itemsT t = some us) : us.length + nodK us + 1 ≤ nodT t := by
  have := itT_nod 2001 t [] us h
  simp only [List.length_nil, nodK] at this
  omega
theorem items_few (m : Nat) (t : T) (us : List T) (h : itemsT t = some us) (ht : fewT m t) : fewK m us := itT_few m 2001 t [] us h ht trivial
end Go.Ab

/- bif.two of any terms, by its name. Conditions: limbs in range; so many nodes at most. -/
namespace Go.Ab
open Go.Proofs
set_option maxRecDepth 100000
set_option linter.unusedSimpArgs false

def maxX (a b : T) : T := if cmpX a b ≥ 0 then a else b
def minX (a b : T) : T := if cmpX a b ≤ 0 then a else b
def ppT (a b : T) : T × Bool := match itemsT a with
  | some us => (listT us b, true)
  | none => (b, false)
theorem pp_yes (a b : T) (us : List T) (h : itemsT a = some us) : ppT a b = (listT us b, true) := by unfold ppT; rw [h]
theorem pp_no (a b : T) (h : itemsT a = none) : ppT a b = (b, false) := by unfold ppT; rw [h]
def memT (a L : T) : T × Bool := match itemsT L with
  | some us => (atomT (if memX a us then sTrue else sFalse), true)
  | none => (T0, false)
theorem mem_yes (a L : T) (us : List T) (h : itemsT L = some us) (hm : memX a us = true) : memT a L = (atomT sTrue, true) := by unfold memT; rw [h]; simp only [hm, if_true]
theorem mem_not (a L : T) (us : List T) (h : itemsT L = some us) (hm : memX a us = false) : memT a L = (atomT sFalse, true) := by unfold memT; rw [h]; simp only [hm, Bool.false_eq_true, if_false]
theorem mem_none (a L : T) (h : itemsT L = none) : memT a L = (T0, false) := by unfold memT; rw [h]
section
variable (R d : Nat) (hR : 100000 ≤ R) (hd : 6020 ≤ d)
include hR hd
theorem btwo_element (a b : T) (la : Limbs (limT a)) : evalFn Tryz.prog cfg0 R (d+1) 63 [.tree (.str w_element), .tree (encT a), .tree (encT b)] = some (.tree (.tup [encT (twoT 1 a b).1, .bool (twoT 1 a b).2]), [[], [], []]) := by
  obtain ⟨d', rfl⟩ : ∃ d', d = d' + 5 := ⟨d - 5, by omega⟩
  exact twoEl_eq R (d'+5) a b _ _ (twoA_eq R d' hR 1 a b la)
theorem cmpX_R (a b : T) (ha : bigT 9223372036854775808 a) (hb : bigT 9223372036854775808 b) (hn : nodT a ≤ 1000) : evalFn Tryz.prog cfg0 R d 96 [.tree (encT a), .tree (encT b)] = some (.tree (.int .i64 (cmpX a b)), [[], []]) :=
  evalFn_mono hR 6020 d hd _ _ _ (tcmpX_eq 1000 6020 a b (by have := ht_nod a; omega) (by omega) hn ha hb)
set_option maxHeartbeats 4000000 in
theorem btwo_max (a b : T) (ha : bigT 9223372036854775808 a) (hb : bigT 9223372036854775808 b) (hn : nodT a ≤ 1000) : evalFn Tryz.prog cfg0 R (d+1) 63 [.tree (.str w_max), .tree (encT a), .tree (encT b)] = some (.tree (.tup [encT (maxX a b), .bool true]), [[], [], []]) := by
  rw [evalFn_go _ Tryz.func63 (by unfold Tryz.f63; rfl) (by unfold Tryz.f63; decide) (Nat.le_of_ble_eq_true (by unfold Tryz.f63; rfl)) (by kernel_rfl)]
  have w0 : (w_max == ([101, 108, 101, 109, 101, 110, 116] : List UInt8)) = false := by decide
  have w1 : (w_max == ([109, 101, 109, 98, 101, 114] : List UInt8)) = false := by decide
  have w2 : (w_max == ([109, 97, 120] : List UInt8)) = true := by decide
  have c := fun D st => callA_trees (cfg := cfg0) (d := D) (s := st) (f := 96) (vs := [encT a, encT b]) rfl (cmpX_R R d hR hd a b ha hb hn)
  simp only [encT] at c
  by_cases h : cmpX a b ≥ 0
  · have e : maxX a b = a := if_pos h
    rw [e]
    simp only [simB, zbo, Nat.reduceBEq, own0, ↓reduceIte, Nat.reduceEqDiff, Nat.reduceAdd, simA, simL, simN, Nat.zero_add, zev, List.toList_toArray, len9, ix9, zew, zex, zey, zez, zfa, zeroT, encT, ldT_u, s_eqlS, w0, w1, w2, c, h, st_Tt, stT_6]
    exact finish_T2 _ _ _ _ _ a _ _ _ _ _ (by simp only [zfp, ↓reduceIte, Nat.reduceEqDiff]; try rfl) (by simp only [zfp, ↓reduceIte, Nat.reduceEqDiff]; try rfl) (by simp only [zfp, ↓reduceIte, Nat.reduceEqDiff]; try rfl) rfl
  · have e : maxX a b = b := if_neg h
    rw [e]
    simp only [simB, zbo, Nat.reduceBEq, own0, ↓reduceIte, Nat.reduceEqDiff, Nat.reduceAdd, simA, simL, simN, Nat.zero_add, zev, List.toList_toArray, len9, ix9, zew, zex, zey, zez, zfa, zeroT, encT, ldT_u, s_eqlS, w0, w1, w2, c, h, st_Tt, stT_6]
    exact finish_T2 _ _ _ _ _ b _ _ _ _ _ (by simp only [zfp, ↓reduceIte, Nat.reduceEqDiff]; try rfl) (by simp only [zfp, ↓reduceIte, Nat.reduceEqDiff]; try rfl) (by simp only [zfp, ↓reduceIte, Nat.reduceEqDiff]; try rfl) rfl
set_option maxHeartbeats 4000000 in
theorem btwo_min (a b : T) (ha : bigT 9223372036854775808 a) (hb : bigT 9223372036854775808 b) (hn : nodT a ≤ 1000) : evalFn Tryz.prog cfg0 R (d+1) 63 [.tree (.str w_min), .tree (encT a), .tree (encT b)] = some (.tree (.tup [encT (minX a b), .bool true]), [[], [], []]) := by
  rw [evalFn_go _ Tryz.func63 (by unfold Tryz.f63; rfl) (by unfold Tryz.f63; decide) (Nat.le_of_ble_eq_true (by unfold Tryz.f63; rfl)) (by kernel_rfl)]
  have w0 : (w_min == ([101, 108, 101, 109, 101, 110, 116] : List UInt8)) = false := by decide
  have w1 : (w_min == ([109, 101, 109, 98, 101, 114] : List UInt8)) = false := by decide
  have w2 : (w_min == ([109, 97, 120] : List UInt8)) = false := by decide
  have w3 : (w_min == ([109, 105, 110] : List UInt8)) = true := by decide
  have c := fun D st => callA_trees (cfg := cfg0) (d := D) (s := st) (f := 96) (vs := [encT a, encT b]) rfl (cmpX_R R d hR hd a b ha hb hn)
  simp only [encT] at c
  by_cases h : cmpX a b ≤ 0
  · have e : minX a b = a := if_pos h
    rw [e]
    simp only [simB, zbo, Nat.reduceBEq, own0, ↓reduceIte, Nat.reduceEqDiff, Nat.reduceAdd, simA, simL, simN, Nat.zero_add, zev, List.toList_toArray, len9, ix9, zew, zex, zey, zez, zfa, zeroT, encT, ldT_u, s_eqlS, w0, w1, w2, w3, c, h, st_Tt, stT_6]
    exact finish_T2 _ _ _ _ _ a _ _ _ _ _ (by simp only [zfp, ↓reduceIte, Nat.reduceEqDiff]; try rfl) (by simp only [zfp, ↓reduceIte, Nat.reduceEqDiff]; try rfl) (by simp only [zfp, ↓reduceIte, Nat.reduceEqDiff]; try rfl) rfl
  · have e : minX a b = b := if_neg h
    rw [e]
    simp only [simB, zbo, Nat.reduceBEq, own0, ↓reduceIte, Nat.reduceEqDiff, Nat.reduceAdd, simA, simL, simN, Nat.zero_add, zev, List.toList_toArray, len9, ix9, zew, zex, zey, zez, zfa, zeroT, encT, ldT_u, s_eqlS, w0, w1, w2, w3, c, h, st_Tt, stT_6]
    exact finish_T2 _ _ _ _ _ b _ _ _ _ _ (by simp only [zfp, ↓reduceIte, Nat.reduceEqDiff]; try rfl) (by simp only [zfp, ↓reduceIte, Nat.reduceEqDiff]; try rfl) (by simp only [zfp, ↓reduceIte, Nat.reduceEqDiff]; try rfl) rfl
set_option maxHeartbeats 4000000 in
theorem btwo_pp (a b : T) (hn : nodT a ≤ 1999) : evalFn Tryz.prog cfg0 R (d+1) 63 [.tree (.str w_pp), .tree (encT a), .tree (encT b)] = some (.tree (.tup [encT (ppT a b).1, .bool (ppT a b).2]), [[], [], []]) := by
  obtain ⟨d', rfl⟩ : ∃ d', d = d' + 2 := ⟨d - 2, by omega⟩
  cases hI : itemsT a with
  | some us =>
    rw [pp_yes a b us hI]
    exact twoPP_eq R d' hR a b us hI (by have := items_len a us hI; omega)
  | none =>
    rw [pp_no a b hI]
    rw [evalFn_go _ Tryz.func63 (by unfold Tryz.f63; rfl) (by unfold Tryz.f63; decide) (Nat.le_of_ble_eq_true (by unfold Tryz.f63; rfl)) (by kernel_rfl)]
    have w0 : (w_pp == ([101, 108, 101, 109, 101, 110, 116] : List UInt8)) = false := by decide
    have w1 : (w_pp == ([109, 101, 109, 98, 101, 114] : List UInt8)) = false := by decide
    have w2 : (w_pp == ([109, 97, 120] : List UInt8)) = false := by decide
    have w3 : (w_pp == ([109, 105, 110] : List UInt8)) = false := by decide
    have ct := fun D st => callA_trees (cfg := cfg0) (d := D) (s := st) (f := 53) (vs := [encT a]) rfl (items_eq R (by omega) (d'+1) a)
    rw [hI] at ct
    have cl := fun D st => callA_trees (cfg := cfg0) (d := D) (s := st) (f := 91) (vs := [.sl [] 0 .nil, encT b]) rfl (tList_eq R (d'+1) [] .nil b (by simp))
    simp only [encT, itemsV, listT] at ct cl
    simp only [simB, zbo, Nat.reduceBEq, own0, ↓reduceIte, Nat.reduceEqDiff, Nat.reduceAdd, simA, simL, simN, Nat.zero_add, zev, List.toList_toArray, len9, ix9, zew, zex, zey, zez, zfa, zeroT, encT, ldT_u, s_eqlS, w0, w1, w2, w3, ct, cl, zds, st_Tt, stT_6]
    exact finish_T2 _ _ _ _ _ b _ _ _ _ _ (by simp only [zfp, ↓reduceIte, Nat.reduceEqDiff]; try rfl) (by simp only [zfp, ↓reduceIte, Nat.reduceEqDiff]; try rfl) (by simp only [zfp, ↓reduceIte, Nat.reduceEqDiff]; try rfl) rfl
theorem sameX_R (x a : T) (hf : fewT 100000 x) (hn : nodT x ≤ 2000) : evalFn Tryz.prog cfg0 R d 121 [.tree (encT x), .tree (encT a)] = some (.tree (.bool (sameT x a)), [[], []]) :=
  evalFn_mono hR 6000 d (by omega) _ _ _ (tsame_eq 2000 6000 x a (by have := ht_nod x; omega) (by omega) hf)
set_option maxHeartbeats 4000000 in
theorem memberX_eq (a L : T) (hf : fewT 100000 L) (hn : nodT L ≤ 1999) :
    evalFn Tryz.prog cfg0 R (d+1) 95 [.tree (encT a), .tree (encT L)] = some (.tree (.tup [encT (memT a L).1, .bool (memT a L).2]), [[], []]) := by
  rw [evalFn_go _ Tryz.func95 (by unfold Tryz.f95; rfl) (by unfold Tryz.f95; decide) (Nat.le_of_ble_eq_true (by unfold Tryz.f95; rfl)) (by kernel_rfl)]
  obtain ⟨d', rfl⟩ : ∃ d', d = d' + 1 := ⟨d - 1, by omega⟩
  have ct := fun D st => callA_trees (cfg := cfg0) (d := D) (s := st) (f := 53) (vs := [encT L]) rfl (items_eq R (by omega) d' L)
  cases hI : itemsT L with
  | none =>
    rw [hI] at ct
    rw [mem_none a L hI]
    simp only [itemsV, encT] at ct
    simp only [simB, zbo, Nat.reduceBEq, own0, ↓reduceIte, Nat.reduceEqDiff, Nat.reduceAdd, simA, simL, simN, Nat.zero_add, zev, List.toList_toArray, len9, ix9, zew, zex, zey, zez, zfa, zeroT, encT, ldT_u, ct, zds, unA_not', Bool.not_false, bdT_00, st_Tt, stT_6]
    exact finish_T2 _ _ _ _ _ T0 _ _ _ _ _ (by simp only [zfp, ↓reduceIte, Nat.reduceEqDiff]; try rfl) (by simp only [zfp, ↓reduceIte, Nat.reduceEqDiff]; try rfl) (by simp only [zfp, ↓reduceIte, Nat.reduceEqDiff]; try rfl) rfl
  | some us =>
  rw [hI] at ct
  simp only [itemsV, encT] at ct
  have hlen := items_len L us hI
  have hnk := items_nod L us hI
  have hfk := items_few 100000 L us hI hf
  have cat := fun z D st => callA_trees (cfg := cfg0) (d := D) (s := st) (f := 29) (vs := [.str z]) rfl (atom_eq R d' z)
  have ca1 := cat sTrue
  have ca2 := cat sFalse
  simp only [encT, sTrue, sFalse] at ca1 ca2
  simp only [simB, zbo, Nat.reduceBEq, own0, ↓reduceIte, Nat.reduceEqDiff, Nat.reduceAdd, simA, simL, simN, Nat.zero_add, zev, List.toList_toArray, len9, ix9, zew, zex, zey, zez, zfa, zeroT, encT, ldT_u, ct, zds, unA_not', Bool.not_true, lenTk, zbt, zbw, den_loop]
  refine loop_ends (X := Nat) (fun i env st => env 2 = .ptr 2 1 0 ∧ env 4 = .ptr 4 1 0 ∧ st 2 = ⟨1, .buf (cellsT a)⟩ ∧ st 4 = ⟨1, .buf [.int .i64 0, .bool false, .sl [] 0 .nil, .str [], .int .i64 0, .sl [] 0 .nil]⟩ ∧ env 8 = .str [102, 97, 108, 115, 101] ∧ env 19 = .sl (cellsK us) us.length (gr (kgOf us)) ∧ env 20 = .int .i64 (us.length : Int) ∧ env 21 = .int .i64 (i : Int) ∧ i ≤ us.length ∧ memX a us = memX a (us.drop i)) (fun i => us.length - i) (fun _ => (.tree (.tup [encT (memT a L).1, .bool (memT a L).2]), [[], []])) ?_ R 0 _ _ (by omega) ⟨(by simp only [zfp, ↓reduceIte, Nat.reduceEqDiff]; try rfl), (by simp only [zfp, ↓reduceIte, Nat.reduceEqDiff]; try rfl), (by simp only [zfp, ↓reduceIte, Nat.reduceEqDiff]; try rfl), (by simp only [zfp, ↓reduceIte, Nat.reduceEqDiff]; try rfl), (by simp only [zfp, ↓reduceIte, Nat.reduceEqDiff]; try rfl), (by simp only [zfp, ↓reduceIte, Nat.reduceEqDiff]; try rfl), (by simp only [zfp, ↓reduceIte, Nat.reduceEqDiff]; try rfl), (by simp only [zfp, ↓reduceIte, Nat.reduceEqDiff]; try rfl), Nat.zero_le _, rfl⟩
  intro rr i hx ih env st ⟨e2, e4, j2, j4, e8, e19, e20, e21, hi, hm⟩
  cases hda : us.drop i with
  | nil =>
    have hil : i = us.length := by have := congrArg List.length hda; simp only [List.length_drop, List.length_nil] at this; omega
    have q1 : ¬ (i : Int) < (us.length : Int) := by omega
    rw [hda] at hm
    rw [mem_not a L us hI hm]
    simp only [simB, zbo, Nat.reduceBEq, own0, ↓reduceIte, Nat.reduceEqDiff, Nat.reduceAdd, simL, simN, Nat.zero_add, zev, List.toList_toArray, len9, ix9, zew, zex, zey, zez, zfa, zeroT, e2, e4, e8, j2, j4, e19, e20, e21, q1, ca2, st_Tt, stT_6]
    exact finish_T2 _ _ _ _ _ (atomT sFalse) _ _ _ _ _ (by simp only [zfp, ↓reduceIte, Nat.reduceEqDiff, e4]; try rfl) (by simp only [zfp, ↓reduceIte, Nat.reduceEqDiff]; try rfl) (by simp only [zfp, ↓reduceIte, Nat.reduceEqDiff]; try rfl) rfl
  | cons x q =>
    have hil : i < us.length := by have := congrArg List.length hda; simp only [List.length_drop, List.length_cons] at this; omega
    have q1 : (i : Int) < (us.length : Int) := by omega
    have ia := fun st => ia_K st us (gr (kgOf us)) i hil
    have hmd := memX_drop a us i x q hda
    rw [hda] at ia
    have ld := fun st => ld_K st x q
    simp only [encT] at ld
    have hxm : x ∈ us := by have : x ∈ us.drop i := by rw [hda]; simp
                            exact List.mem_of_mem_drop this
    have cs := fun D st => callA_trees (cfg := cfg0) (d := D) (s := st) (f := 121) (vs := [encT x, encT a]) rfl (sameX_R R (d'+1) hR hd x a (fewK_mem hfk x hxm) (by have := kids_nod us i x q hda; omega))
    simp only [encT] at cs
    have f5 := i_add Tryz.prog 3 (i : Int) 1 (by omega) (by omega)
    cases hsm : sameT x a with
    | true =>
      rw [hsm] at cs
      rw [hmd, hsm, Bool.true_or] at hm
      rw [mem_yes a L us hI hm]
      simp only [simB, zbo, Nat.reduceBEq, own0, ↓reduceIte, Nat.reduceEqDiff, Nat.reduceAdd, simL, simN, Nat.zero_add, zev, List.toList_toArray, len9, ix9, zew, zex, zey, zez, zfa, zeroT, e2, e4, e8, j2, j4, e19, e20, e21, q1, ia, ld, ldT_u, st_Tt, stT_6, cs, ca1]
      exact finish_T2 _ _ _ _ _ (atomT sTrue) _ _ _ _ _ (by simp only [zfp, ↓reduceIte, Nat.reduceEqDiff, e4]; try rfl) (by simp only [zfp, ↓reduceIte, Nat.reduceEqDiff]; try rfl) (by simp only [zfp, ↓reduceIte, Nat.reduceEqDiff]; try rfl) rfl
    | false =>
      rw [hsm] at cs
      rw [hmd, hsm, Bool.false_or] at hm
      simp only [simB, zbo, Nat.reduceBEq, own0, ↓reduceIte, Nat.reduceEqDiff, Nat.reduceAdd, simL, simN, Nat.zero_add, zev, List.toList_toArray, len9, ix9, zew, zex, zey, zez, zfa, zeroT, e2, e4, e8, j2, j4, e19, e20, e21, q1, ia, ld, ldT_u, st_Tt, stT_6, cs, f5]
      exact ih (i + 1) _ _ (by omega) rfl ⟨(by simp only [zfp, ↓reduceIte, Nat.reduceEqDiff, e2]; try rfl), (by simp only [zfp, ↓reduceIte, Nat.reduceEqDiff, e4]; try rfl), (by simp only [zfp, ↓reduceIte, Nat.reduceEqDiff, j2]; try rfl), (by simp only [zfp, ↓reduceIte, Nat.reduceEqDiff, j4]; try rfl), (by simp only [zfp, ↓reduceIte, Nat.reduceEqDiff, e8]; try rfl), (by simp only [zfp, ↓reduceIte, Nat.reduceEqDiff, e19]; try rfl), (by simp only [zfp, ↓reduceIte, Nat.reduceEqDiff, e20]; try rfl), (by simp only [zfp, ↓reduceIte, Nat.reduceEqDiff]; try rfl), by omega, hm⟩
theorem btwo_member (a L : T) (hf : fewT 100000 L) (hn : nodT L ≤ 1999) : evalFn Tryz.prog cfg0 R (d+2) 63 [.tree (.str w_member), .tree (encT a), .tree (encT L)] = some (.tree (.tup [encT (memT a L).1, .bool (memT a L).2]), [[], [], []]) :=
  twoMem_eq R (d+1) a L _ _ (memberX_eq R d hR hd a L hf hn)
end
end Go.Ab

/- relictref19.more of any terms, by its name (CFG4; printed by genrmore.py). Conditions: limbs in range; so many nodes at most. -/
namespace Go.Ab
open Go.Proofs
set_option maxRecDepth 100000
set_option linter.unusedSimpArgs false

theorem ia_0W (st : St) (a b : T) (r : List T) (g : Grip) : indexAddrA Tryz.prog 22 st (.sl (cellsK (a :: b :: r)) (a :: b :: r).length g) (.int .i64 0) = some (.rptr (cellsK (a :: b :: r))) := ia_K st (a :: b :: r) g 0 (Nat.zero_lt_succ _)
theorem ia_1W (st : St) (a b : T) (r : List T) (g : Grip) : indexAddrA Tryz.prog 22 st (.sl (cellsK (a :: b :: r)) (a :: b :: r).length g) (.int .i64 1) = some (.rptr (cellsK (b :: r))) := ia_K st (a :: b :: r) g 1 (by simp only [List.length_cons]; omega)
theorem rcmpX_R (a b : T) (ha : bigT 9223372036854775808 a) (hb : bigT 9223372036854775808 b) (hn : nodT a ≤ 1000) : evalFn Tryz.prog cfg0 9223372036854775808 6190 19 [.tree (encT a), .tree (encT b)] = some (.tree (.int .i64 (cmpX a b)), [[], []]) :=
  evalFn_mono (by decide) 6020 6190 (by decide) _ _ _ (rcmpX_eq 1000 6020 a b (by have := ht_nod a; omega) (by omega) hn ha hb)
theorem rsameX_R (x a : T) (hf : fewT 100000 x) (hn : nodT x ≤ 2000) : evalFn Tryz.prog cfg0 9223372036854775808 6190 18 [.tree (encT x), .tree (encT a)] = some (.tree (.bool (sameT x a)), [[], []]) :=
  evalFn_mono (by decide) 6190 6190 (by decide) _ _ _ (rsame_eq 100000 (by decide) 6189 6190 x a (by have := ht_nod x; omega) (by decide) hf)
def ppR (a b : T) : T × Bool := match itemsT a with
  | some us => (listT us b, true)
  | none => (T0, false)
theorem ppR_yes (a b : T) (us : List T) (h : itemsT a = some us) : ppR a b = (listT us b, true) := by unfold ppR; rw [h]
theorem ppR_no (a b : T) (h : itemsT a = none) : ppR a b = (T0, false) := by unfold ppR; rw [h]

set_option maxHeartbeats 8000000 in
theorem rmore_element (n d : Nat) (a b : T) (r : List T) (g : Grip) (hg : g.isTok = false) (na : nodT a ≤ 1999) (nb : nodT b ≤ 1999) (la : Limbs (limT a)) : evalFn Tryz.prog cfg4 n (d+2) 37 [.tree (.str w_element), .tree (.sl (cellsK (a :: b :: r)) (a :: b :: r).length g)] = some (.tree (.tup [encT ((twoT 1 a b).1), .bool ((twoT 1 a b).2)]), [[], []]) := by
  rw [evalFn_go _ Tryz.func37 (by unfold Tryz.f37; rfl) (by unfold Tryz.f37; decide) (Nat.le_of_ble_eq_true (by unfold Tryz.f37; rfl)) (by kernel_rfl)]
  have w0 : (w_element == ([101, 108, 101, 109, 101, 110, 116] : List UInt8)) = true := by decide
  have w1 : (w_element == ([43, 43] : List UInt8)) = false := by decide
  have w2 : (w_element == ([109, 97, 120] : List UInt8)) = false := by decide
  have w3 : (w_element == ([109, 105, 110] : List UInt8)) = false := by decide
  have w4 : (w_element == ([109, 101, 109, 98, 101, 114] : List UInt8)) = false := by decide
  have w5 : (w_element == ([115, 101, 116, 101, 108, 101, 109, 101, 110, 116] : List UInt8)) = false := by decide
  have c1 := fun D st => callA_trees (cfg := cfg4) (d := D) (s := st) (f := 55) (vs := [encT a]) rfl (ev4 (n := n) (d := d) rfl rfl (rItemsA_eq 9223372036854775808 6189 a na (by decide)))
  have c2 := fun D st => callA_trees (cfg := cfg4) (d := D) (s := st) (f := 55) (vs := [encT b]) rfl (ev4 (n := n) (d := d) rfl rfl (rItemsA_eq 9223372036854775808 6189 b nb (by decide)))
  have l0 := fun st => ld_KW st a (b :: r)
  have l1 := fun st => ld_KW st b r
  obtain ⟨x1, o1, h1⟩ := itemsV_tup (itemsT a)
  rw [h1] at c1
  obtain ⟨x2, o2, h2⟩ := itemsV_tup (itemsT b)
  rw [h2] at c2
  simp only [encT] at c1 c2
  have ct := callQ_trees (f := 26) (vs := [.int .i64 1, encT a, encT b]) rfl (ev4 (n := n) (d := d) rfl rfl (rtwoA_eq 9223372036854775808 6185 (by decide) 1 a b la))
  simp only [encT] at ct
  simp only [simB, keep4, Nat.reduceBEq, own4, String.reduceAppend, String.reduceBEq, Bool.or_false, Bool.or_true, Bool.or_self, ↓reduceIte, Nat.reduceEqDiff, Nat.reduceAdd, simA, simL, simN, Nat.zero_add, zev, List.toList_toArray, len9, ix9, zew, zex, zey, zez, zfa, simV, zeroT, s_eqlS, w0, w1, w2, w3, w4, w5, ia_0W, ia_1W, l0, l1, c1, c2, lenTk, zds, bdT_00, st_Tt, stT_6, ct]
  exact finish_T2 _ _ _ _ _ ((twoT 1 a b).1) _ _ _ _ _ (by simp only [zfp, ↓reduceIte, Nat.reduceEqDiff]; try rfl) (by simp only [zfp, ↓reduceIte, Nat.reduceEqDiff]; try rfl) (by simp only [zfp, ↓reduceIte, Nat.reduceEqDiff]; try rfl) rfl

set_option maxHeartbeats 8000000 in
theorem rmore_pp (n d : Nat) (a b : T) (r : List T) (g : Grip) (hg : g.isTok = false) (na : nodT a ≤ 1999) (nb : nodT b ≤ 1999) : evalFn Tryz.prog cfg4 n (d+2) 37 [.tree (.str w_pp), .tree (.sl (cellsK (a :: b :: r)) (a :: b :: r).length g)] = some (.tree (.tup [encT ((ppR a b).1), .bool ((ppR a b).2)]), [[], []]) := by
  rw [evalFn_go _ Tryz.func37 (by unfold Tryz.f37; rfl) (by unfold Tryz.f37; decide) (Nat.le_of_ble_eq_true (by unfold Tryz.f37; rfl)) (by kernel_rfl)]
  have w0 : (w_pp == ([101, 108, 101, 109, 101, 110, 116] : List UInt8)) = false := by decide
  have w1 : (w_pp == ([43, 43] : List UInt8)) = true := by decide
  have w2 : (w_pp == ([109, 97, 120] : List UInt8)) = false := by decide
  have w3 : (w_pp == ([109, 105, 110] : List UInt8)) = false := by decide
  have w4 : (w_pp == ([109, 101, 109, 98, 101, 114] : List UInt8)) = false := by decide
  have w5 : (w_pp == ([115, 101, 116, 101, 108, 101, 109, 101, 110, 116] : List UInt8)) = false := by decide
  have c1 := fun D st => callA_trees (cfg := cfg4) (d := D) (s := st) (f := 55) (vs := [encT a]) rfl (ev4 (n := n) (d := d) rfl rfl (rItemsA_eq 9223372036854775808 6189 a na (by decide)))
  have c2 := fun D st => callA_trees (cfg := cfg4) (d := D) (s := st) (f := 55) (vs := [encT b]) rfl (ev4 (n := n) (d := d) rfl rfl (rItemsA_eq 9223372036854775808 6189 b nb (by decide)))
  have l0 := fun st => ld_KW st a (b :: r)
  have l1 := fun st => ld_KW st b r
  obtain ⟨x2, o2, h2⟩ := itemsV_tup (itemsT b)
  rw [h2] at c2
  cases hI : itemsT a with
  | none =>
    rw [hI] at c1
    rw [ppR_no a b hI]
    simp only [itemsV, encT] at c1 c2
    simp only [simB, keep4, Nat.reduceBEq, own4, String.reduceAppend, String.reduceBEq, Bool.or_false, Bool.or_true, Bool.or_self, ↓reduceIte, Nat.reduceEqDiff, Nat.reduceAdd, simA, simL, simN, Nat.zero_add, zev, List.toList_toArray, len9, ix9, zew, zex, zey, zez, zfa, simV, zeroT, s_eqlS, w0, w1, w2, w3, w4, w5, ia_0W, ia_1W, l0, l1, c1, c2, lenTk, zds, bdT_00, st_Tt, stT_6]
    exact finish_T2 _ _ _ _ _ (T0) _ _ _ _ _ (by simp only [zfp, ↓reduceIte, Nat.reduceEqDiff]; try rfl) (by simp only [zfp, ↓reduceIte, Nat.reduceEqDiff]; try rfl) (by simp only [zfp, ↓reduceIte, Nat.reduceEqDiff]; try rfl) rfl
  | some us =>
    rw [hI] at c1
    have hil := items_len a us hI
    rw [ppR_yes a b us hI]
    have hT := okTreeW us (gr (kgOf us)) (by unfold kgOf; split <;> rfl)
    have cl := fun D st => callA_trees (cfg := cfg4) (d := D) (s := st) (f := 16) (vs := [.sl (cellsK us) us.length (gr (kgOf us)), encT b]) (by simp only [List.all_cons, hT]; rfl) (ev4 (n := n) (d := d) rfl rfl (rList_eq 9223372036854775808 6189 us (gr (kgOf us)) b (by omega) (by omega)))
    simp only [itemsV, encT] at c1 c2 cl
    simp only [simB, keep4, Nat.reduceBEq, own4, String.reduceAppend, String.reduceBEq, Bool.or_false, Bool.or_true, Bool.or_self, ↓reduceIte, Nat.reduceEqDiff, Nat.reduceAdd, simA, simL, simN, Nat.zero_add, zev, List.toList_toArray, len9, ix9, zew, zex, zey, zez, zfa, simV, zeroT, s_eqlS, w0, w1, w2, w3, w4, w5, ia_0W, ia_1W, l0, l1, c1, c2, lenTk, zds, bdT_00, st_Tt, stT_6, cl]
    exact finish_T2 _ _ _ _ _ (listT us b) _ _ _ _ _ (by simp only [zfp, ↓reduceIte, Nat.reduceEqDiff]; try rfl) (by simp only [zfp, ↓reduceIte, Nat.reduceEqDiff]; try rfl) (by simp only [zfp, ↓reduceIte, Nat.reduceEqDiff]; try rfl) rfl

set_option maxHeartbeats 8000000 in
theorem rmore_max (n d : Nat) (a b : T) (r : List T) (g : Grip) (hg : g.isTok = false) (na : nodT a ≤ 1999) (nb : nodT b ≤ 1999) (ba : bigT 9223372036854775808 a) (bb : bigT 9223372036854775808 b) (hn : nodT a ≤ 1000) : evalFn Tryz.prog cfg4 n (d+2) 37 [.tree (.str w_max), .tree (.sl (cellsK (a :: b :: r)) (a :: b :: r).length g)] = some (.tree (.tup [encT (maxX a b), .bool (true)]), [[], []]) := by
  rw [evalFn_go _ Tryz.func37 (by unfold Tryz.f37; rfl) (by unfold Tryz.f37; decide) (Nat.le_of_ble_eq_true (by unfold Tryz.f37; rfl)) (by kernel_rfl)]
  have w0 : (w_max == ([101, 108, 101, 109, 101, 110, 116] : List UInt8)) = false := by decide
  have w1 : (w_max == ([43, 43] : List UInt8)) = false := by decide
  have w2 : (w_max == ([109, 97, 120] : List UInt8)) = true := by decide
  have w3 : (w_max == ([109, 105, 110] : List UInt8)) = false := by decide
  have w4 : (w_max == ([109, 101, 109, 98, 101, 114] : List UInt8)) = false := by decide
  have w5 : (w_max == ([115, 101, 116, 101, 108, 101, 109, 101, 110, 116] : List UInt8)) = false := by decide
  have c1 := fun D st => callA_trees (cfg := cfg4) (d := D) (s := st) (f := 55) (vs := [encT a]) rfl (ev4 (n := n) (d := d) rfl rfl (rItemsA_eq 9223372036854775808 6189 a na (by decide)))
  have c2 := fun D st => callA_trees (cfg := cfg4) (d := D) (s := st) (f := 55) (vs := [encT b]) rfl (ev4 (n := n) (d := d) rfl rfl (rItemsA_eq 9223372036854775808 6189 b nb (by decide)))
  have l0 := fun st => ld_KW st a (b :: r)
  have l1 := fun st => ld_KW st b r
  obtain ⟨x1, o1, h1⟩ := itemsV_tup (itemsT a)
  rw [h1] at c1
  obtain ⟨x2, o2, h2⟩ := itemsV_tup (itemsT b)
  rw [h2] at c2
  simp only [encT] at c1 c2
  have ct := callQ_trees (f := 19) (vs := [encT a, encT b]) rfl (ev4 (n := n) (d := d) rfl rfl (rcmpX_R a b ba bb hn))
  simp only [encT] at ct
  by_cases h : cmpX a b < 0
  · have e : maxX a b = b := if_neg (by omega)
    rw [e]
    simp only [simB, keep4, Nat.reduceBEq, own4, String.reduceAppend, String.reduceBEq, Bool.or_false, Bool.or_true, Bool.or_self, ↓reduceIte, Nat.reduceEqDiff, Nat.reduceAdd, simA, simL, simN, Nat.zero_add, zev, List.toList_toArray, len9, ix9, zew, zex, zey, zez, zfa, simV, zeroT, s_eqlS, w0, w1, w2, w3, w4, w5, ia_0W, ia_1W, l0, l1, c1, c2, lenTk, zds, bdT_00, st_Tt, stT_6, ct, h]
    exact finish_T2 _ _ _ _ _ (b) _ _ _ _ _ (by simp only [zfp, ↓reduceIte, Nat.reduceEqDiff]; try rfl) (by simp only [zfp, ↓reduceIte, Nat.reduceEqDiff]; try rfl) (by simp only [zfp, ↓reduceIte, Nat.reduceEqDiff]; try rfl) rfl
  · have e : maxX a b = a := if_pos (by omega)
    rw [e]
    simp only [simB, keep4, Nat.reduceBEq, own4, String.reduceAppend, String.reduceBEq, Bool.or_false, Bool.or_true, Bool.or_self, ↓reduceIte, Nat.reduceEqDiff, Nat.reduceAdd, simA, simL, simN, Nat.zero_add, zev, List.toList_toArray, len9, ix9, zew, zex, zey, zez, zfa, simV, zeroT, s_eqlS, w0, w1, w2, w3, w4, w5, ia_0W, ia_1W, l0, l1, c1, c2, lenTk, zds, bdT_00, st_Tt, stT_6, ct, h]
    exact finish_T2 _ _ _ _ _ (a) _ _ _ _ _ (by simp only [zfp, ↓reduceIte, Nat.reduceEqDiff]; try rfl) (by simp only [zfp, ↓reduceIte, Nat.reduceEqDiff]; try rfl) (by simp only [zfp, ↓reduceIte, Nat.reduceEqDiff]; try rfl) rfl

set_option maxHeartbeats 8000000 in
theorem rmore_min (n d : Nat) (a b : T) (r : List T) (g : Grip) (hg : g.isTok = false) (na : nodT a ≤ 1999) (nb : nodT b ≤ 1999) (ba : bigT 9223372036854775808 a) (bb : bigT 9223372036854775808 b) (hn : nodT a ≤ 1000) : evalFn Tryz.prog cfg4 n (d+2) 37 [.tree (.str w_min), .tree (.sl (cellsK (a :: b :: r)) (a :: b :: r).length g)] = some (.tree (.tup [encT (minX a b), .bool (true)]), [[], []]) := by
  rw [evalFn_go _ Tryz.func37 (by unfold Tryz.f37; rfl) (by unfold Tryz.f37; decide) (Nat.le_of_ble_eq_true (by unfold Tryz.f37; rfl)) (by kernel_rfl)]
  have w0 : (w_min == ([101, 108, 101, 109, 101, 110, 116] : List UInt8)) = false := by decide
  have w1 : (w_min == ([43, 43] : List UInt8)) = false := by decide
  have w2 : (w_min == ([109, 97, 120] : List UInt8)) = false := by decide
  have w3 : (w_min == ([109, 105, 110] : List UInt8)) = true := by decide
  have w4 : (w_min == ([109, 101, 109, 98, 101, 114] : List UInt8)) = false := by decide
  have w5 : (w_min == ([115, 101, 116, 101, 108, 101, 109, 101, 110, 116] : List UInt8)) = false := by decide
  have c1 := fun D st => callA_trees (cfg := cfg4) (d := D) (s := st) (f := 55) (vs := [encT a]) rfl (ev4 (n := n) (d := d) rfl rfl (rItemsA_eq 9223372036854775808 6189 a na (by decide)))
  have c2 := fun D st => callA_trees (cfg := cfg4) (d := D) (s := st) (f := 55) (vs := [encT b]) rfl (ev4 (n := n) (d := d) rfl rfl (rItemsA_eq 9223372036854775808 6189 b nb (by decide)))
  have l0 := fun st => ld_KW st a (b :: r)
  have l1 := fun st => ld_KW st b r
  obtain ⟨x1, o1, h1⟩ := itemsV_tup (itemsT a)
  rw [h1] at c1
  obtain ⟨x2, o2, h2⟩ := itemsV_tup (itemsT b)
  rw [h2] at c2
  simp only [encT] at c1 c2
  have ct := callQ_trees (f := 19) (vs := [encT a, encT b]) rfl (ev4 (n := n) (d := d) rfl rfl (rcmpX_R a b ba bb hn))
  simp only [encT] at ct
  by_cases h : cmpX a b > 0
  · have e : minX a b = b := if_neg (by omega)
    rw [e]
    simp only [simB, keep4, Nat.reduceBEq, own4, String.reduceAppend, String.reduceBEq, Bool.or_false, Bool.or_true, Bool.or_self, ↓reduceIte, Nat.reduceEqDiff, Nat.reduceAdd, simA, simL, simN, Nat.zero_add, zev, List.toList_toArray, len9, ix9, zew, zex, zey, zez, zfa, simV, zeroT, s_eqlS, w0, w1, w2, w3, w4, w5, ia_0W, ia_1W, l0, l1, c1, c2, lenTk, zds, bdT_00, st_Tt, stT_6, ct, h]
    exact finish_T2 _ _ _ _ _ (b) _ _ _ _ _ (by simp only [zfp, ↓reduceIte, Nat.reduceEqDiff]; try rfl) (by simp only [zfp, ↓reduceIte, Nat.reduceEqDiff]; try rfl) (by simp only [zfp, ↓reduceIte, Nat.reduceEqDiff]; try rfl) rfl
  · have e : minX a b = a := if_pos (by omega)
    rw [e]
    simp only [simB, keep4, Nat.reduceBEq, own4, String.reduceAppend, String.reduceBEq, Bool.or_false, Bool.or_true, Bool.or_self, ↓reduceIte, Nat.reduceEqDiff, Nat.reduceAdd, simA, simL, simN, Nat.zero_add, zev, List.toList_toArray, len9, ix9, zew, zex, zey, zez, zfa, simV, zeroT, s_eqlS, w0, w1, w2, w3, w4, w5, ia_0W, ia_1W, l0, l1, c1, c2, lenTk, zds, bdT_00, st_Tt, stT_6, ct, h]
    exact finish_T2 _ _ _ _ _ (a) _ _ _ _ _ (by simp only [zfp, ↓reduceIte, Nat.reduceEqDiff]; try rfl) (by simp only [zfp, ↓reduceIte, Nat.reduceEqDiff]; try rfl) (by simp only [zfp, ↓reduceIte, Nat.reduceEqDiff]; try rfl) rfl

set_option maxHeartbeats 8000000 in
theorem rmore_member (n d : Nat) (a b : T) (r : List T) (g : Grip) (hg : g.isTok = false) (na : nodT a ≤ 1999) (nb : nodT b ≤ 1999) (hf : fewT 100000 b) (hn : 2000 < n) : evalFn Tryz.prog cfg4 n (d+2) 37 [.tree (.str w_member), .tree (.sl (cellsK (a :: b :: r)) (a :: b :: r).length g)] = some (.tree (.tup [encT ((memT a b).1), .bool ((memT a b).2)]), [[], []]) := by
  rw [evalFn_go _ Tryz.func37 (by unfold Tryz.f37; rfl) (by unfold Tryz.f37; decide) (Nat.le_of_ble_eq_true (by unfold Tryz.f37; rfl)) (by kernel_rfl)]
  have w0 : (w_member == ([101, 108, 101, 109, 101, 110, 116] : List UInt8)) = false := by decide
  have w1 : (w_member == ([43, 43] : List UInt8)) = false := by decide
  have w2 : (w_member == ([109, 97, 120] : List UInt8)) = false := by decide
  have w3 : (w_member == ([109, 105, 110] : List UInt8)) = false := by decide
  have w4 : (w_member == ([109, 101, 109, 98, 101, 114] : List UInt8)) = true := by decide
  have w5 : (w_member == ([115, 101, 116, 101, 108, 101, 109, 101, 110, 116] : List UInt8)) = false := by decide
  have c1 := fun D st => callA_trees (cfg := cfg4) (d := D) (s := st) (f := 55) (vs := [encT a]) rfl (ev4 (n := n) (d := d) rfl rfl (rItemsA_eq 9223372036854775808 6189 a na (by decide)))
  have c2 := fun D st => callA_trees (cfg := cfg4) (d := D) (s := st) (f := 55) (vs := [encT b]) rfl (ev4 (n := n) (d := d) rfl rfl (rItemsA_eq 9223372036854775808 6189 b nb (by decide)))
  have l0 := fun st => ld_KW st a (b :: r)
  have l1 := fun st => ld_KW st b r
  obtain ⟨x1, o1, h1⟩ := itemsV_tup (itemsT a)
  rw [h1] at c1
  cases hI : itemsT b with
  | none =>
    rw [hI] at c2
    rw [mem_none a b hI]
    simp only [itemsV, encT] at c1 c2
    simp only [simB, keep4, Nat.reduceBEq, own4, String.reduceAppend, String.reduceBEq, Bool.or_false, Bool.or_true, Bool.or_self, ↓reduceIte, Nat.reduceEqDiff, Nat.reduceAdd, simA, simL, simN, Nat.zero_add, zev, List.toList_toArray, len9, ix9, zew, zex, zey, zez, zfa, simV, zeroT, s_eqlS, w0, w1, w2, w3, w4, w5, ia_0W, ia_1W, l0, l1, c1, c2, lenTk, zds, bdT_00, st_Tt, stT_6]
    exact finish_T2 _ _ _ _ _ (T0) _ _ _ _ _ (by simp only [zfp, ↓reduceIte, Nat.reduceEqDiff]; try rfl) (by simp only [zfp, ↓reduceIte, Nat.reduceEqDiff]; try rfl) (by simp only [zfp, ↓reduceIte, Nat.reduceEqDiff]; try rfl) rfl
  | some us =>
  rw [hI] at c2
  simp only [itemsV, encT] at c1 c2
  have hlen := items_len b us hI
  have hnk := items_nod b us hI
  have hfk := items_few 100000 b us hI hf
  have cat := fun z D st => callA_trees (cfg := cfg4) (d := D) (s := st) (f := 30) (vs := [.str z]) rfl (ev4 (n := n) (d := d) rfl rfl (ratom_eq 9223372036854775808 6189 z))
  have ca1 := cat sTrue
  have ca2 := cat sFalse
  simp only [encT, sTrue, sFalse] at ca1 ca2
  simp only [simB, keep4, Nat.reduceBEq, own4, String.reduceAppend, String.reduceBEq, Bool.or_false, Bool.or_true, Bool.or_self, ↓reduceIte, Nat.reduceEqDiff, Nat.reduceAdd, simA, simL, simN, Nat.zero_add, zev, List.toList_toArray, len9, ix9, zew, zex, zey, zez, zfa, simV, zeroT, s_eqlS, w0, w1, w2, w3, w4, w5, ia_0W, ia_1W, l0, l1, c1, c2, lenTk, zds, bdT_00, st_Tt, stT_6, den_loop]
  refine loop_ends (X := Nat) (fun i env st => env 1 = .sl (cellsK (a :: b :: r)) (a :: b :: r).length g ∧ env 4 = .ptr 4 1 0 ∧ st 4 = ⟨1, .buf [.int .i64 0, .bool false, .sl [] 0 .nil, .str [], .int .i64 0, .sl [] 0 .nil]⟩ ∧ env 8 = .sl (cellsK us) us.length (gr (kgOf us)) ∧ env 10 = .int .i64 (i : Int) ∧ i ≤ us.length ∧ memX a us = memX a (us.drop i)) (fun i => us.length - i) (fun _ => (.tree (.tup [encT (memT a b).1, .bool (memT a b).2]), [[], []])) ?_ n 0 _ _ (by omega) ⟨(by simp only [zfp, ↓reduceIte, Nat.reduceEqDiff, env0, List.getElem?_cons_zero, List.getElem?_cons_succ]; try rfl), (by simp only [zfp, ↓reduceIte, Nat.reduceEqDiff]; try rfl), (by simp only [zfp, ↓reduceIte, Nat.reduceEqDiff]; try rfl), (by simp only [zfp, ↓reduceIte, Nat.reduceEqDiff]; try rfl), (by simp only [zfp, ↓reduceIte, Nat.reduceEqDiff]; try rfl), Nat.zero_le _, rfl⟩
  intro rr i hx ih env st ⟨e1, e4, j4, e8, e10, hi, hm⟩
  cases hda : us.drop i with
  | nil =>
    have hil : i = us.length := by have := congrArg List.length hda; simp only [List.length_drop, List.length_nil] at this; omega
    have q1 : ¬ (i : Int) < (us.length : Int) := by omega
    rw [hda] at hm
    rw [mem_not a b us hI hm]
    simp only [simB, keep4, Nat.reduceBEq, own4, String.reduceAppend, String.reduceBEq, Bool.or_false, Bool.or_true, Bool.or_self, ↓reduceIte, Nat.reduceEqDiff, Nat.reduceAdd, simA, simL, simN, Nat.zero_add, zev, List.toList_toArray, len9, ix9, zew, zex, zey, zez, zfa, zeroT, e1, e4, e8, e10, j4, lenTk, q1, ca2, st_Tt, stT_6]
    exact finish_T2 _ _ _ _ _ (atomT sFalse) _ _ _ _ _ (by simp only [zfp, ↓reduceIte, Nat.reduceEqDiff, e4]; try rfl) (by simp only [zfp, ↓reduceIte, Nat.reduceEqDiff]; try rfl) (by simp only [zfp, ↓reduceIte, Nat.reduceEqDiff]; try rfl) rfl
  | cons x q =>
    have hil : i < us.length := by have := congrArg List.length hda; simp only [List.length_drop, List.length_cons] at this; omega
    have q1 : (i : Int) < (us.length : Int) := by omega
    have ia := fun st => ia_K st us (gr (kgOf us)) i hil
    have hmd := memX_drop a us i x q hda
    rw [hda] at ia
    have ld := fun st => ld_K st x q
    simp only [encT] at ld
    have hxm : x ∈ us := by have : x ∈ us.drop i := by rw [hda]; simp
                            exact List.mem_of_mem_drop this
    have cs := callQ_trees (f := 18) (vs := [encT x, encT a]) rfl (ev4 (n := n) (d := d) rfl rfl (rsameX_R x a (fewK_mem hfk x hxm) (by have := kids_nod us i x q hda; omega)))
    simp only [encT] at cs
    have f5 := i_add Tryz.prog 3 (i : Int) 1 (by omega) (by omega)
    cases hsm : sameT x a with
    | true =>
      rw [hsm] at cs
      rw [hmd, hsm, Bool.true_or] at hm
      rw [mem_yes a b us hI hm]
      simp only [simB, keep4, Nat.reduceBEq, own4, String.reduceAppend, String.reduceBEq, Bool.or_false, Bool.or_true, Bool.or_self, ↓reduceIte, Nat.reduceEqDiff, Nat.reduceAdd, simA, simL, simN, Nat.zero_add, zev, List.toList_toArray, len9, ix9, zew, zex, zey, zez, zfa, zeroT, e1, e4, e8, e10, j4, lenTk, q1, ia, ld, ia_0W, l0, cs, ca1, st_Tt, stT_6]
      exact finish_T2 _ _ _ _ _ (atomT sTrue) _ _ _ _ _ (by simp only [zfp, ↓reduceIte, Nat.reduceEqDiff, e4]; try rfl) (by simp only [zfp, ↓reduceIte, Nat.reduceEqDiff]; try rfl) (by simp only [zfp, ↓reduceIte, Nat.reduceEqDiff]; try rfl) rfl
    | false =>
      rw [hsm] at cs
      rw [hmd, hsm, Bool.false_or] at hm
      simp only [simB, keep4, Nat.reduceBEq, own4, String.reduceAppend, String.reduceBEq, Bool.or_false, Bool.or_true, Bool.or_self, ↓reduceIte, Nat.reduceEqDiff, Nat.reduceAdd, simA, simL, simN, Nat.zero_add, zev, List.toList_toArray, len9, ix9, zew, zex, zey, zez, zfa, zeroT, e1, e4, e8, e10, j4, lenTk, q1, ia, ld, ia_0W, l0, cs, f5]
      exact ih (i + 1) _ _ (by omega) rfl ⟨(by simp only [zfp, ↓reduceIte, Nat.reduceEqDiff, e1]; try rfl), (by simp only [zfp, ↓reduceIte, Nat.reduceEqDiff, e4]; try rfl), (by simp only [zfp, ↓reduceIte, Nat.reduceEqDiff, j4]; try rfl), (by simp only [zfp, ↓reduceIte, Nat.reduceEqDiff, e8]; try rfl), (by simp only [zfp, ↓reduceIte, Nat.reduceEqDiff]; try rfl), by omega, hm⟩
end Go.Ab

/- setelement of any terms: bif.answer of three, relictref19.more (CFG4). Conditions: limbs in range; so many nodes at most. -/
namespace Go.Ab
open Go.Proofs
set_option maxRecDepth 100000
set_option linter.unusedSimpArgs false

theorem moreV (s : St) (us : List T) (g : Grip) : moreA Tryz.prog 29 6 (some 22) s (.sl (cellsK us) us.length g) = some (cellsK us, us.length) := by
  simp only [moreA, Option.map_some, tkTk, cellsK_len, ↓reduceIte]
theorem appendO_cV (d : Nat) (s : St) (us : List T) (g : Grip) (h1 : us ≠ []) (h2 : us.length ≤ 1000000) : appendO Tryz.prog #[22, 22] d s (.sl [] 0 .tight) (.sl (cellsK us) us.length g) = some (.own d ((s d).t + 1) 0 us.length 6, upd s d ⟨(s d).t + 1, .buf (cellsK us)⟩) := by
  have h3 : 1 ≤ us.length := List.length_pos_iff.mpr h1
  simp only [appendO, List.getElem?_toArray, List.getElem?_cons_zero, List.getElem?_cons_succ, Option.map_some, tkTk, eszT, Option.bind_some, moreV, zl28, ↓reduceIte, or_true, true_and]
  rw [if_pos ⟨h3, roomJ us.length (by omega)⟩]
theorem appendO_nV (d : Nat) (s : St) (us : List T) (g : Grip) (h1 : us ≠ []) (h2 : us.length ≤ 1000000) : appendO Tryz.prog #[22, 22] d s (.sl [] 0 .nil) (.sl (cellsK us) us.length g) = some (.own d ((s d).t + 1) 0 us.length 6, upd s d ⟨(s d).t + 1, .buf (cellsK us)⟩) := by
  have h3 : 1 ≤ us.length := List.length_pos_iff.mpr h1
  simp only [appendO, List.getElem?_toArray, List.getElem?_cons_zero, List.getElem?_cons_succ, Option.map_some, tkTk, eszT, Option.bind_some, moreV, zl28, ↓reduceIte, true_or, true_and]
  rw [if_pos ⟨h3, roomJ us.length (by omega)⟩]
theorem k_eqlV (us : List T) (h1 : us ≠ []) : binA Tryz.prog .eql 22 (.sl (cellsK us) us.length .loose) (.sl [] 0 .nil) = some (.bool false) := by
  have h3 : 0 < us.length := List.length_pos_iff.mpr h1
  simp only [binA, tkTk, nilA, h3, if_true, eqA, Option.map_some]
theorem opA_bsV (call : FuncId → List Arg → Option Out) (q : Bool) (d : Option Tmp) (ty : TypeId) (pos : String) (af : Array Edge) (g : Option (Nat × Bool)) (t : Nat) (env : Env) (s : St) :
    opA Tryz.prog cfg4 call q ⟨d, .buildSlice 22 0 #[], ty, pos, af, g⟩ t env s = some (.sl [] 0 .tight, s) := by
  simp only [opA, tkTk, eszT, zeroT, Option.bind_some, List.map_nil]
  rfl
theorem clone4_eq (n d : Nat) (us : List T) (h1 : us ≠ []) (h2 : us.length ≤ 1000000) : evalFn Tryz.prog cfg4 n (d+1) 64 [.tree (.sl (cellsK us) us.length .loose)] = some (.own (cellsK us) us.length 6, [[]]) := by
  rw [evalFn_go _ Tryz.func64 (by unfold Tryz.f64; rfl) (by unfold Tryz.f64; decide) (Nat.le_of_ble_eq_true (by unfold Tryz.f64; rfl)) (by kernel_rfl)]
  have c1 := fun d s => appendO_cV d s us .loose h1 h2
  have c2 := k_eqlV us h1
  simp only [simB, keep4, Nat.reduceBEq, own4, String.reduceAppend, String.reduceBEq, Bool.or_false, Bool.or_true, Bool.or_self, ↓reduceIte, Nat.reduceEqDiff, Nat.reduceAdd, simA, simL, simN, Nat.zero_add, c2, opA_bsV, c1]
  simp [finishP_t1, finish, finish1, cellsK_len, outsA]
theorem callA_ownV {call : FuncId → List Arg → Option Out} {d : Nat} {s : St} {f : FuncId} {v : AV} {xs : List AV} {len e : Nat} (ht : isTree v = true) (hc : call f [.tree v] = some (.own xs len e, [[]])) : callA cfg4 call d s f [v] = some (.own d ((s d).t + 1) 0 len e, upd s d ⟨(s d).t + 1, .buf xs⟩) := by
  have h1 : argsA cfg4 f s 0 [v] = some [.tree v] := argsA_trees f s [v] 0 (by simpa using ht)
  have h2 : givesL [v] [Arg.tree v] = [] := givesL_trees [v]
  have h3 : lendsL [v] [Arg.tree v] = [] := lendsL_trees [v] (by simpa using ht)
  have h4 : backA s [v] [Arg.tree v] [[]] = some s := backA_trees s [v]
  simp only [callA, h1, Option.bind_some, h2, h3, List.nodup_nil, List.not_mem_nil, false_implies, implies_true, and_self, if_true, hc, List.foldl_nil, ite_self, h4, resA]
theorem faR_V (s : St) (k : Int) (b : Bool) (lg : Gk) (l : List Nat) (x : List UInt8) (n : Int) (kg : Gk) (us : List T) (r : List T) : fieldAddrA Tryz.prog 29 s (.rptr (cellsK (.mk k b lg l x n kg us :: r))) 4 = some (.rptr (.sl (cellsK us) us.length (gr kg) :: cellsK r)) := by
  simp only [fieldAddrA, fdT4, eszTk]
  rfl
theorem ldR_V (s : St) (xs : List AV) (n : Nat) (g : Grip) (r : List AV) : loadA Tryz.prog 22 s (.rptr (.sl xs n g :: r)) = some (.sl xs n g) := by
  simp only [loadA, partA, shTk]
  rfl
theorem buildO_V (s : St) (p t : Nat) (us : List T) (hs : s p = ⟨t, .buf (cellsK us)⟩) : buildO Tryz.prog 29 s [(0, .int .i64 5), (4, .own p t 0 us.length 6)] = some (.agg (cellsT (tupT .l us)), upd s p ⟨t, .frz (cellsK us)⟩) := by
  have e : ((cellsK us).drop 0).take (us.length * 6) = cellsK us := by rw [List.drop_zero, List.take_of_length_le (by rw [cellsK_len]; exact Nat.le_refl _)]
  simp only [buildO, settleP, settle, Option.bind_some, Option.map_some, hs]
  rw [if_pos ⟨trivial, by rw [cellsK_len]; omega⟩]
  simp only [Option.bind_some, Option.map_some, e, zeroT, tkT, plT]
  rfl
theorem ia_a (st : St) (a b c : T) (g : Grip) : indexAddrA Tryz.prog 22 st (.sl (cellsK [a, b, c]) 3 g) (.int .i64 0) = some (.rptr (cellsK [a, b, c])) := ia_K st [a, b, c] g 0 (by simp)
theorem ia_b (st : St) (a b c : T) (g : Grip) : indexAddrA Tryz.prog 22 st (.sl (cellsK [a, b, c]) 3 g) (.int .i64 1) = some (.rptr (cellsK [b, c])) := ia_K st [a, b, c] g 1 (by simp)
theorem ia_c (st : St) (a b c : T) (g : Grip) : indexAddrA Tryz.prog 22 st (.sl (cellsK [a, b, c]) 3 g) (.int .i64 2) = some (.rptr (cellsK [c])) := ia_K st [a, b, c] g 2 (by simp)
theorem lenV3 (s : St) (xs : List AV) (g : Grip) : lenA Tryz.prog 22 s (.sl xs 3 g) = some (.int .i64 3) := lenTk s xs 3 g
theorem place_ne (a b : T) (h : PlaceP a b) : kidsT b ≠ [] := fun e => by
  have := h.2.2.2
  rw [e] at this
  simp only [List.length_nil] at this
  omega
set_option maxHeartbeats 8000000 in
theorem banswer3_bad (n d : Nat) (name : List UInt8) (a b c : T) (g : Grip) (la : Limbs (limT a)) (hq : ¬ PlaceP a b) :
    evalFn Tryz.prog cfg4 n (d+2) 34 [.tree (.str name), .tree (.sl (cellsK [a, b, c]) 3 g)] = some (.tree (.tup [encT T0, .bool false]), [[], []]) := by
  rw [evalFn_go _ Tryz.func34 (by unfold Tryz.f34; rfl) (by unfold Tryz.f34; decide) (Nat.le_of_ble_eq_true (by unfold Tryz.f34; rfl)) (by kernel_rfl)]
  obtain ⟨w, hw, hp⟩ := placeA_eq 9223372036854775808 6186 (by decide) a b la
  have hp := hp false ⟨(fun h => by cases h), fun h => absurd h hq⟩
  have c1 := callQ_trees (f := 56) (vs := [encT a, encT b]) rfl (ev4 (n := n) (d := d) rfl rfl hp)
  have l0 := fun st => ld_KW st a [b, c]
  have l1 := fun st => ld_KW st b [c]
  simp only [encT] at c1
  simp only [simB, keep4, Nat.reduceBEq, own4, String.reduceAppend, String.reduceBEq, Bool.or_false, Bool.or_true, Bool.or_self, ↓reduceIte, Nat.reduceEqDiff, Nat.reduceAdd, simA, simL, simN, Nat.zero_add, zeroT, lenV3, i_eqlV, Int.reduceBEq, ia_a, ia_b, l0, l1, c1, zds, unA_not', Bool.not_false, bdT_00, st_Tt, stT_6]
  exact finish_T2 _ _ _ _ _ T0 _ _ _ _ _ (by simp only [zfp, ↓reduceIte, Nat.reduceEqDiff]; try rfl) (by simp only [zfp, ↓reduceIte, Nat.reduceEqDiff]; try rfl) (by simp only [zfp, ↓reduceIte, Nat.reduceEqDiff]; try rfl) rfl
set_option maxHeartbeats 8000000 in
theorem banswer3_ok (n d : Nat) (name : List UInt8) (a b c : T) (g : Grip) (la : Limbs (limT a)) (hq : PlaceP a b) (hkg : ∃ k b1 lg l x m, b = .mk k b1 lg l x m .l (kidsT b)) (hl : (kidsT b).length ≤ 1000) :
    evalFn Tryz.prog cfg4 n (d+2) 34 [.tree (.str name), .tree (.sl (cellsK [a, b, c]) 3 g)] = some (.tree (.tup [encT (tupT .l ((kidsT b).set ((zOfT a).toNat - 1) c)), .bool true]), [[], []]) := by
  rw [evalFn_go _ Tryz.func34 (by unfold Tryz.f34; rfl) (by unfold Tryz.f34; decide) (Nat.le_of_ble_eq_true (by unfold Tryz.f34; rfl)) (by kernel_rfl)]
  obtain ⟨w, hw, hp⟩ := placeA_eq 9223372036854775808 6186 (by decide) a b la
  have hp := hp true ⟨fun _ => hq, fun _ => rfl⟩
  have hpd := place_drop a b hq
  rw [hw hq, ← hpd.2.1] at hp
  have hne := place_ne a b hq
  have c1 := callQ_trees (f := 56) (vs := [encT a, encT b]) rfl (ev4 (n := n) (d := d) rfl rfl hp)
  obtain ⟨k, b1, lg, l, x, m, hb⟩ := hkg
  have l0 := fun st => ld_KW st a [b, c]
  have l1 := fun st => ld_KW st b [c]
  have l2 := fun st => ld_KW st c []
  obtain ⟨us, hus⟩ : ∃ us, kidsT b = us := ⟨_, rfl⟩
  rw [hus] at hb hl hne hpd ⊢
  obtain ⟨i, hie⟩ : ∃ i, (zOfT a).toNat - 1 = i := ⟨_, rfl⟩
  rw [hie] at c1 hpd ⊢
  have fa := fun st => faR_V st k b1 lg l x m .l us [c]
  rw [← hb] at fa
  have c2 := fun D st => callA_ownV (d := D) (s := st) (f := 64) (v := .sl (cellsK us) us.length .loose) rfl (clone4_eq n d us hne (by omega))
  have hi := hpd.1
  have q1 : (0 : Int) ≤ ((i : Nat) : Int) := by omega
  have q2 : ((i : Nat) : Int) < (us.length : Int) := by omega
  have gl : gr .l = .loose := rfl
  have bo := fun s p t hs => buildO_V s p t (us.set i c) hs
  rw [List.length_set] at bo
  simp only [encT] at c1
  simp only [simB, keep4, Nat.reduceBEq, own4, String.reduceAppend, String.reduceBEq, Bool.or_false, Bool.or_true, Bool.or_self, ↓reduceIte, Nat.reduceEqDiff, Nat.reduceAdd, simA, simL, simN, Nat.zero_add, zeroT, lenV3, i_eqlV, Int.reduceBEq, ia_a, ia_b, ia_c, l0, l1, l2, c1, zds, unA_not', Bool.not_true, fa, gl, ldR_V, c2, iaO, cellsE_buf, Option.isSome_some, q1, q2, and_self, Int.toNat_natCast, stO, stOE_K, hi, bo, st_Tt, stT_6]
  exact finish_T2 _ _ _ _ _ (tupT .l (us.set i c)) _ _ _ _ _ (by simp only [zfp, ↓reduceIte, Nat.reduceEqDiff]; try rfl) (by simp only [zfp, ↓reduceIte, Nat.reduceEqDiff]; try rfl) (by simp only [zfp, ↓reduceIte, Nat.reduceEqDiff]; try rfl) rfl
set_option maxHeartbeats 8000000 in
theorem rmore3_bad (n d : Nat) (a b c : T) (g : Grip) (na : nodT a ≤ 1999) (nb : nodT b ≤ 1999) (la : Limbs (limT a)) (hq : ¬ PlaceP a b) :
    evalFn Tryz.prog cfg4 n (d+2) 37 [.tree (.str w_setelement), .tree (.sl (cellsK [a, b, c]) 3 g)] = some (.tree (.tup [encT T0, .bool false]), [[], []]) := by
  rw [evalFn_go _ Tryz.func37 (by unfold Tryz.f37; rfl) (by unfold Tryz.f37; decide) (Nat.le_of_ble_eq_true (by unfold Tryz.f37; rfl)) (by kernel_rfl)]
  have w0 : (w_setelement == ([101, 108, 101, 109, 101, 110, 116] : List UInt8)) = false := by decide
  have w1 : (w_setelement == ([43, 43] : List UInt8)) = false := by decide
  have w2 : (w_setelement == ([109, 97, 120] : List UInt8)) = false := by decide
  have w3 : (w_setelement == ([109, 105, 110] : List UInt8)) = false := by decide
  have w4 : (w_setelement == ([109, 101, 109, 98, 101, 114] : List UInt8)) = false := by decide
  have w5 : (w_setelement == ([115, 101, 116, 101, 108, 101, 109, 101, 110, 116] : List UInt8)) = true := by decide
  have c1 := fun D st => callA_trees (cfg := cfg4) (d := D) (s := st) (f := 55) (vs := [encT a]) rfl (ev4 (n := n) (d := d) rfl rfl (rItemsA_eq 9223372036854775808 6189 a na (by decide)))
  have c2 := fun D st => callA_trees (cfg := cfg4) (d := D) (s := st) (f := 55) (vs := [encT b]) rfl (ev4 (n := n) (d := d) rfl rfl (rItemsA_eq 9223372036854775808 6189 b nb (by decide)))
  have cp := callQ_trees (f := 57) (vs := [encT a, encT b]) rfl (ev4 (n := n) (d := d) rfl rfl (rplaceA_eq 9223372036854775808 6186 (by decide) a b la (-1) (fun h => absurd h hq) (fun _ => rfl)))
  obtain ⟨x1, o1, h1⟩ := itemsV_tup (itemsT a)
  rw [h1] at c1
  obtain ⟨x2, o2, h2⟩ := itemsV_tup (itemsT b)
  rw [h2] at c2
  have l0 := fun st => ld_KW st a [b, c]
  have l1 := fun st => ld_KW st b [c]
  have q1 : ¬ ((-1 : Int) ≥ 0) := by decide
  simp only [encT] at c1 c2 cp
  simp only [simB, keep4, Nat.reduceBEq, own4, String.reduceAppend, String.reduceBEq, Bool.or_false, Bool.or_true, Bool.or_self, ↓reduceIte, Nat.reduceEqDiff, Nat.reduceAdd, simA, simL, simN, Nat.zero_add, zev, List.toList_toArray, len9, ix9, zew, zex, zey, zez, zfa, simV, zeroT, s_eqlS, w0, w1, w2, w3, w4, w5, ia_a, ia_b, l0, l1, c1, c2, cp, q1, lenTk, zds, bdT_00, st_Tt, stT_6]
  exact finish_T2 _ _ _ _ _ T0 _ _ _ _ _ (by simp only [zfp, ↓reduceIte, Nat.reduceEqDiff]; try rfl) (by simp only [zfp, ↓reduceIte, Nat.reduceEqDiff]; try rfl) (by simp only [zfp, ↓reduceIte, Nat.reduceEqDiff]; try rfl) rfl
set_option maxHeartbeats 8000000 in
theorem rmore3_ok (n d : Nat) (a b c : T) (g : Grip) (na : nodT a ≤ 1999) (nb : nodT b ≤ 1999) (la : Limbs (limT a)) (hq : PlaceP a b) (hl : (kidsT b).length ≤ 1000) :
    evalFn Tryz.prog cfg4 n (d+2) 37 [.tree (.str w_setelement), .tree (.sl (cellsK [a, b, c]) 3 g)] = some (.tree (.tup [encT (tupT .l ((kidsT b).set ((zOfT a).toNat - 1) c)), .bool true]), [[], []]) := by
  rw [evalFn_go _ Tryz.func37 (by unfold Tryz.f37; rfl) (by unfold Tryz.f37; decide) (Nat.le_of_ble_eq_true (by unfold Tryz.f37; rfl)) (by kernel_rfl)]
  have w0 : (w_setelement == ([101, 108, 101, 109, 101, 110, 116] : List UInt8)) = false := by decide
  have w1 : (w_setelement == ([43, 43] : List UInt8)) = false := by decide
  have w2 : (w_setelement == ([109, 97, 120] : List UInt8)) = false := by decide
  have w3 : (w_setelement == ([109, 105, 110] : List UInt8)) = false := by decide
  have w4 : (w_setelement == ([109, 101, 109, 98, 101, 114] : List UInt8)) = false := by decide
  have w5 : (w_setelement == ([115, 101, 116, 101, 108, 101, 109, 101, 110, 116] : List UInt8)) = true := by decide
  have hpd := place_drop a b hq
  have hne := place_ne a b hq
  have c1 := fun D st => callA_trees (cfg := cfg4) (d := D) (s := st) (f := 55) (vs := [encT a]) rfl (ev4 (n := n) (d := d) rfl rfl (rItemsA_eq 9223372036854775808 6189 a na (by decide)))
  have c2 := fun D st => callA_trees (cfg := cfg4) (d := D) (s := st) (f := 55) (vs := [encT b]) rfl (ev4 (n := n) (d := d) rfl rfl (rItemsA_eq 9223372036854775808 6189 b nb (by decide)))
  have cp := callQ_trees (f := 57) (vs := [encT a, encT b]) rfl (ev4 (n := n) (d := d) rfl rfl (rplaceA_eq 9223372036854775808 6186 (by decide) a b la (((zOfT a).toNat - 1 : Nat) : Int) (fun _ => hpd.2.1) (fun h => absurd hq h)))
  obtain ⟨x1, o1, h1⟩ := itemsV_tup (itemsT a)
  rw [h1] at c1
  obtain ⟨x2, o2, h2⟩ := itemsV_tup (itemsT b)
  rw [h2] at c2
  have l0 := fun st => ld_KW st a [b, c]
  have l1 := fun st => ld_KW st b [c]
  have l2 := fun st => ld_KW st c []
  obtain ⟨us, hus⟩ : ∃ us, kidsT b = us := ⟨_, rfl⟩
  rw [hus] at hl hne hpd ⊢
  obtain ⟨i, hie⟩ : ∃ i, (zOfT a).toNat - 1 = i := ⟨_, rfl⟩
  rw [hie] at cp hpd ⊢
  obtain ⟨k, b1, lg, l, x, m, kg, us'⟩ := b
  simp only [kidsT] at hus
  subst hus
  have fa := fun st => faR_V st k b1 lg l x m kg us' [c]
  have ap := fun d s => appendO_nV d s us' (gr kg) hne (by omega)
  have hi := hpd.1
  have q0 : ((i : Nat) : Int) ≥ 0 := by omega
  have q1 : (0 : Int) ≤ ((i : Nat) : Int) := by omega
  have q2 : ((i : Nat) : Int) < (us'.length : Int) := by omega
  have bo := fun s p t hs => buildO_V s p t (us'.set i c) hs
  rw [List.length_set] at bo
  simp only [encT] at c1 c2 cp
  simp only [simB, keep4, Nat.reduceBEq, own4, String.reduceAppend, String.reduceBEq, Bool.or_false, Bool.or_true, Bool.or_self, ↓reduceIte, Nat.reduceEqDiff, Nat.reduceAdd, simA, simL, simN, Nat.zero_add, zev, List.toList_toArray, len9, ix9, zew, zex, zey, zez, zfa, simV, zeroT, s_eqlS, w0, w1, w2, w3, w4, w5, ia_a, ia_b, ia_c, l0, l1, l2, c1, c2, cp, q0, q1, q2, lenTk, zds, fa, ldR_V, ap, iaO, cellsE_buf, Option.isSome_some, and_self, Int.toNat_natCast, stO, stOE_K, hi, bo, st_Tt, stT_6]
  exact finish_T2 _ _ _ _ _ (tupT .l (us'.set i c)) _ _ _ _ _ (by simp only [zfp, ↓reduceIte, Nat.reduceEqDiff]; try rfl) (by simp only [zfp, ↓reduceIte, Nat.reduceEqDiff]; try rfl) (by simp only [zfp, ↓reduceIte, Nat.reduceEqDiff]; try rfl) rfl
end Go.Ab

/- relictref19.Call by what ones or more answer (CFG4; printed by genrcall.py). Conditions: so many nodes at most. -/
namespace Go.Ab
open Go.Proofs
set_option maxRecDepth 100000
set_option linter.unusedSimpArgs false

theorem tkQ : tkOf Tryz.prog 35 = .st := by kernel_rfl
theorem eszQ : esz Tryz.prog 35 = some 7 := by kernel_rfl
theorem shQ : shOf Tryz.prog 35 = some (true, 7) := by kernel_rfl
theorem zeroQ : zeroOf Tryz.prog 35 = some zErr := by kernel_rfl
theorem plQ : placesA Tryz.prog 35 = some [(0, 1), (1, 6)] := by kernel_rfl
theorem bdQ_ : buildA Tryz.prog 35 [] = some (.agg zErr) := by
  simp only [buildA, zeroQ, tkQ, plQ, Option.bind_some, fillA]; rfl
theorem bdQ_g (x : List UInt8) (r : T) : buildA Tryz.prog 35 [(0, .str x), (1, .agg (cellsT r))] = some (.agg (errG x r)) := by
  obtain ⟨k, b, lg, l, s, m, kg, ks⟩ := r
  simp only [buildA, zeroQ, tkQ, plQ, Option.bind_some, cellsT]
  cases lg <;> cases kg <;> rfl
theorem st_Qg (s : St) (p k : Nat) (ys : List AV) (hl : ys.length = 7) : storeA Tryz.prog 35 s (.ptr p k 0) (.agg ys) = stT (s p) p k s ys := by
  simp only [storeA, settle, Option.bind_some, stT]
  cases h : s p with
  | mk t c => cases c <;> simp [eszQ, hl]
theorem st_QG (s : St) (p k : Nat) (x : List UInt8) (r : T) : storeA Tryz.prog 35 s (.ptr p k 0) (.agg (errG x r)) = stT (s p) p k s (errG x r) := st_Qg _ _ _ _ (errG_len x r)
theorem st_Qz (s : St) (p k : Nat) : storeA Tryz.prog 35 s (.ptr p k 0) (.agg zErr) = stT (s p) p k s zErr := st_Qg _ _ _ _ rfl
theorem ldQ_g (t k : Nat) (ys : List AV) (hl : ys.length = 7) : ldE Tryz.prog 35 ⟨t, .buf ys⟩ k 0 = if t = k then some (.agg ys) else none := by
  rw [ldE_buf, cellsE_buf]
  by_cases h : t = k
  · simp [h, partA, shQ, hl]
    exact List.take_of_length_le (by omega)
  · simp [h]
theorem finish_Q3 (k : Bool) (xs : List Arg) (a p e : Nat) (u : T) (b q e' : Nat) (t : Nat) (v : Bool) (env : Env) (s : St) (os : List (List AV)) (ys : List AV) (hl : ys.length = 7) (ha : env a = .ptr p e 0) (hs : s p = ⟨e, .buf (cellsT u)⟩) (hb : env b = .ptr q e' 0) (hq : s q = ⟨e', .buf ys⟩) (hv : env t = .bool v) (ho : outsA s 0 xs = some os) :
    finishP Tryz.prog k xs #[.cell a 29, .cell b 35, .tmp t] env s = some (.tree (.tup [encT u, .agg ys, .bool v]), os) := by
  have hl1 : loadA Tryz.prog 29 s (env a) = some (.agg (cellsT u)) := by rw [ha, zem, hs, ldT_u, if_pos rfl]
  have hl2 : loadA Tryz.prog 35 s (env b) = some (.agg ys) := by rw [hb, zem, hq, ldQ_g _ _ _ hl, if_pos rfl]
  simp [finishP, isTmpR, rvA, hl1, hl2, hv, settleL, settle, ho, encT]
def isThr (s : List UInt8) : Bool := (s == w_error) || ((s == w_exit) || (s == w_throw))
section
variable (n d : Nat) (m s : List UInt8) (us : List T) (g : Grip) (hg : g.isTok = false)
include hg
omit hg in
set_option maxHeartbeats 8000000 in
theorem rcallU_undef (hh : hasW m s us.length = false) : evalFn Tryz.prog cfg4 n (d+4) 10 [.tree (.str m), .tree (.str s), .tree (.sl (cellsK us) us.length g)] = some (.tree (.tup [encT T0, .agg (errG sErrW (atomT sUndefW)), .bool false]), [[], [], []]) := by
  have h1 := rhas_eq 9223372036854775808 6189 (by decide) (by decide) m s (us.length : Int)
  rw [hh] at h1
  have c1 := fun D st => callA_trees (cfg := cfg4) (d := D) (s := st) (f := 13) (vs := [.str m, .str s, .int .i64 (us.length : Int)]) rfl (ev4 (n := n) (d := d+2) rfl rfl h1)
  have c4 := fun D st => callA_trees (cfg := cfg4) (d := D) (s := st) (f := 30) (vs := [.str sUndefW]) rfl (ev4 (n := n) (d := d+2) rfl rfl (ratom_eq 9223372036854775808 6189 sUndefW))
  rw [evalFn_goP _ Tryz.func10 (by unfold Tryz.f10; rfl) (by unfold Tryz.f10; decide) (Nat.le_of_ble_eq_true (by unfold Tryz.f10; rfl)) (by kernel_rfl)]
  simp only [encT] at c4
  simp only [sUndefW] at c4
  have b2 := bdQ_g sErrW (atomT sUndefW)
  have hst := fun st p k => st_QG st p k sErrW (atomT sUndefW)
  have hst2 := fun t k p st => stE_G t k p st sErrW (atomT sUndefW)
  simp only [sErrW, sUndefW] at b2 hst hst2
  simp only [simP, simB, keep4, Nat.reduceBEq, own4, String.reduceAppend, String.reduceBEq, Bool.or_false, Bool.or_true, Bool.or_self, ↓reduceIte, Nat.reduceEqDiff, Nat.reduceAdd, simA, simL, simN, Nat.zero_add, zev, List.toList_toArray, len9, ix9, zew, zex, zey, zez, zfa, zeroT, zeroQ, lenTk, c1, c4, unA_not', Bool.not_true, Bool.not_false, zds, ldT_u, bdT_00, b2, st_Tt, stT_6, hst, hst2]
  exact finish_Q3 _ _ _ _ _ T0 _ _ _ _ _ _ _ _ (errG sErrW (atomT sUndefW)) rfl (by simp only [zfp, ↓reduceIte, Nat.reduceEqDiff]; try rfl) (by simp only [zfp, ↓reduceIte, Nat.reduceEqDiff]; try rfl) (by simp only [zfp, ↓reduceIte, Nat.reduceEqDiff]; try rfl) (by simp only [zfp, ↓reduceIte, Nat.reduceEqDiff]; try rfl) (by simp only [zfp, ↓reduceIte, Nat.reduceEqDiff]; try rfl) rfl
omit hg in
set_option maxHeartbeats 8000000 in
theorem rcallU_thrown (t : T) (r : List T) (hm : m = erlW) (hus : us = t :: r) (hh : hasW m s us.length = true) (ht : isThr s = true) : evalFn Tryz.prog cfg4 n (d+4) 10 [.tree (.str m), .tree (.str s), .tree (.sl (cellsK us) us.length g)] = some (.tree (.tup [encT T0, .agg (errG s t), .bool false]), [[], [], []]) := by
  have h1 := rhas_eq 9223372036854775808 6189 (by decide) (by decide) m s (us.length : Int)
  rw [hh] at h1
  have c1 := fun D st => callA_trees (cfg := cfg4) (d := D) (s := st) (f := 13) (vs := [.str m, .str s, .int .i64 (us.length : Int)]) rfl (ev4 (n := n) (d := d+2) rfl rfl h1)
  have ia : ∀ st : St, indexAddrA Tryz.prog 22 st (.sl (cellsK (t :: r)) (t :: r).length g) (.int .i64 0) = some (.rptr (cellsK (t :: r))) := fun st => ia_K st (t :: r) g 0 (Nat.zero_lt_succ _)
  have ld := fun st => ld_KW st t r
  have w5 : (m == ([101, 114, 108, 97, 110, 103] : List UInt8)) = true := by rw [hm]; decide
  have hc : ((s == ([101, 114, 114, 111, 114] : List UInt8)) = true) ∨ ((s == ([101, 114, 114, 111, 114] : List UInt8)) = false ∧ (s == ([101, 120, 105, 116] : List UInt8)) = true) ∨ ((s == ([101, 114, 114, 111, 114] : List UInt8)) = false ∧ (s == ([101, 120, 105, 116] : List UInt8)) = false ∧ (s == ([116, 104, 114, 111, 119] : List UInt8)) = true) := by
    simp only [isThr, w_error, w_exit, w_throw] at ht
    cases h1 : (s == ([101, 114, 114, 111, 114] : List UInt8)) with
    | true => exact .inl rfl
    | false =>
      cases h2 : (s == ([101, 120, 105, 116] : List UInt8)) with
      | true => exact .inr (.inl ⟨rfl, rfl⟩)
      | false => rw [h1, h2, Bool.false_or, Bool.false_or] at ht; exact .inr (.inr ⟨rfl, rfl, ht⟩)
  rw [evalFn_goP _ Tryz.func10 (by unfold Tryz.f10; rfl) (by unfold Tryz.f10; decide) (Nat.le_of_ble_eq_true (by unfold Tryz.f10; rfl)) (by kernel_rfl)]
  rw [hus] at c1 ⊢
  rcases hc with e1 | ⟨e1, e2⟩ | ⟨e1, e2, e3⟩
  · simp only [simP, simB, keep4, Nat.reduceBEq, own4, String.reduceAppend, String.reduceBEq, Bool.or_false, Bool.or_true, Bool.or_self, ↓reduceIte, Nat.reduceEqDiff, Nat.reduceAdd, simA, simL, simN, Nat.zero_add, zev, List.toList_toArray, len9, ix9, zew, zex, zey, zez, zfa, zeroT, zeroQ, lenTk, c1, s_eqlS, w5, e1, unA_not', Bool.not_true, Bool.not_false, ia, ld, bdT_00, bdQ_g, st_Tt, stT_6, st_QG, stE_G]
    rw [prune_L (c := .seq (.goto 37) (.seq (.goto 37) .skip)) (by rfl) (by rfl)]
    simp only [simB, keep4, Nat.reduceBEq, own4, String.reduceAppend, String.reduceBEq, Bool.or_false, Bool.or_true, Bool.or_self, ↓reduceIte, Nat.reduceEqDiff, Nat.reduceAdd, simA, simL, simN, Nat.zero_add, zev, List.toList_toArray, len9, ix9, zew, zex, zey, zez, zfa, den_gotoV, gotoV_r, zeroT, zeroQ, lenTk, ia, ld, bdT_00, bdQ_g, st_Tt, stT_6, st_QG, stE_G]
    exact finish_Q3 _ _ _ _ _ T0 _ _ _ _ _ _ _ _ (errG s t) (errG_len s t) (by simp only [zfp, ↓reduceIte, Nat.reduceEqDiff]; try rfl) (by simp only [zfp, ↓reduceIte, Nat.reduceEqDiff]; try rfl) (by simp only [zfp, ↓reduceIte, Nat.reduceEqDiff]; try rfl) (by simp only [zfp, ↓reduceIte, Nat.reduceEqDiff]; try rfl) (by simp only [zfp, ↓reduceIte, Nat.reduceEqDiff]; try rfl) rfl
  · simp only [simP, simB, keep4, Nat.reduceBEq, own4, String.reduceAppend, String.reduceBEq, Bool.or_false, Bool.or_true, Bool.or_self, ↓reduceIte, Nat.reduceEqDiff, Nat.reduceAdd, simA, simL, simN, Nat.zero_add, zev, List.toList_toArray, len9, ix9, zew, zex, zey, zez, zfa, zeroT, zeroQ, lenTk, c1, s_eqlS, w5, e1, e2, unA_not', Bool.not_true, Bool.not_false, ia, ld, bdT_00, bdQ_g, st_Tt, stT_6, st_QG, stE_G]
    rw [prune_L (c := .seq (.goto 37) (.seq (.goto 37) .skip)) (by rfl) (by rfl)]
    simp only [simB, keep4, Nat.reduceBEq, own4, String.reduceAppend, String.reduceBEq, Bool.or_false, Bool.or_true, Bool.or_self, ↓reduceIte, Nat.reduceEqDiff, Nat.reduceAdd, simA, simL, simN, Nat.zero_add, zev, List.toList_toArray, len9, ix9, zew, zex, zey, zez, zfa, den_gotoV, gotoV_r, zeroT, zeroQ, lenTk, ia, ld, bdT_00, bdQ_g, st_Tt, stT_6, st_QG, stE_G]
    exact finish_Q3 _ _ _ _ _ T0 _ _ _ _ _ _ _ _ (errG s t) (errG_len s t) (by simp only [zfp, ↓reduceIte, Nat.reduceEqDiff]; try rfl) (by simp only [zfp, ↓reduceIte, Nat.reduceEqDiff]; try rfl) (by simp only [zfp, ↓reduceIte, Nat.reduceEqDiff]; try rfl) (by simp only [zfp, ↓reduceIte, Nat.reduceEqDiff]; try rfl) (by simp only [zfp, ↓reduceIte, Nat.reduceEqDiff]; try rfl) rfl
  · simp only [simP, simB, keep4, Nat.reduceBEq, own4, String.reduceAppend, String.reduceBEq, Bool.or_false, Bool.or_true, Bool.or_self, ↓reduceIte, Nat.reduceEqDiff, Nat.reduceAdd, simA, simL, simN, Nat.zero_add, zev, List.toList_toArray, len9, ix9, zew, zex, zey, zez, zfa, zeroT, zeroQ, lenTk, c1, s_eqlS, w5, e1, e2, e3, unA_not', Bool.not_true, Bool.not_false, ia, ld, bdT_00, bdQ_g, st_Tt, stT_6, st_QG, stE_G]
    rw [prune_L (c := .seq (.goto 37) (.seq (.goto 37) .skip)) (by rfl) (by rfl)]
    simp only [simB, keep4, Nat.reduceBEq, own4, String.reduceAppend, String.reduceBEq, Bool.or_false, Bool.or_true, Bool.or_self, ↓reduceIte, Nat.reduceEqDiff, Nat.reduceAdd, simA, simL, simN, Nat.zero_add, zev, List.toList_toArray, len9, ix9, zew, zex, zey, zez, zfa, den_gotoV, gotoV_r, zeroT, zeroQ, lenTk, ia, ld, bdT_00, bdQ_g, st_Tt, stT_6, st_QG, stE_G]
    exact finish_Q3 _ _ _ _ _ T0 _ _ _ _ _ _ _ _ (errG s t) (errG_len s t) (by simp only [zfp, ↓reduceIte, Nat.reduceEqDiff]; try rfl) (by simp only [zfp, ↓reduceIte, Nat.reduceEqDiff]; try rfl) (by simp only [zfp, ↓reduceIte, Nat.reduceEqDiff]; try rfl) (by simp only [zfp, ↓reduceIte, Nat.reduceEqDiff]; try rfl) (by simp only [zfp, ↓reduceIte, Nat.reduceEqDiff]; try rfl) rfl
set_option maxHeartbeats 8000000 in
theorem rcall_one_bad (u : T) (hh : hasW m s us.length = true) (hc : m ≠ erlW ∨ isThr s = false) (t : T) (hus : us = [t]) (ha : evalFn Tryz.prog cfg0 9223372036854775808 6190 36 [.tree (.str s), .tree (encT t)] = some (.tree (.tup [encT u, .bool false]), [[], []])) : evalFn Tryz.prog cfg4 n (d+4) 10 [.tree (.str m), .tree (.str s), .tree (.sl (cellsK us) us.length g)] = some (.tree (.tup [encT T0, .agg (errG sErrW (atomT sBad)), .bool false]), [[], [], []]) := by
  have h1 := rhas_eq 9223372036854775808 6189 (by decide) (by decide) m s (us.length : Int)
  rw [hh] at h1
  have hT := okTreeW us g hg
  have c1 := fun D st => callA_trees (cfg := cfg4) (d := D) (s := st) (f := 13) (vs := [.str m, .str s, .int .i64 (us.length : Int)]) rfl (ev4 (n := n) (d := d+2) rfl rfl h1)
  have c3 := fun D st => callA_trees (cfg := cfg4) (d := D) (s := st) (f := 36) (vs := [.str s, encT t]) rfl (ev4 (n := n) (d := d+2) rfl rfl ha)
  have ia : ∀ st : St, indexAddrA Tryz.prog 22 st (.sl (cellsK [t]) [t].length g) (.int .i64 0) = some (.rptr (cellsK [t])) := fun st => ia_K st [t] g 0 (Nat.zero_lt_succ _)
  have ld := fun st => ld_KW st t []
  have b1 : ((([t].length : Nat) : Int) == 1) = true := rfl
  subst hus
  have he : m ≠ erlW ∨ ((s == ([101, 114, 114, 111, 114] : List UInt8)) = false ∧ (s == ([101, 120, 105, 116] : List UInt8)) = false ∧ (s == ([116, 104, 114, 111, 119] : List UInt8)) = false) := by
    rcases hc with h | h
    · exact .inl h
    · simp only [isThr, w_error, w_exit, w_throw, Bool.or_eq_false_iff] at h
      exact .inr h
  have c4 := fun D st => callA_trees (cfg := cfg4) (d := D) (s := st) (f := 30) (vs := [.str sBad]) rfl (ev4 (n := n) (d := d+2) rfl rfl (ratom_eq 9223372036854775808 6189 sBad))
  rw [evalFn_goP _ Tryz.func10 (by unfold Tryz.f10; rfl) (by unfold Tryz.f10; decide) (Nat.le_of_ble_eq_true (by unfold Tryz.f10; rfl)) (by kernel_rfl)]
  simp only [encT] at c3 c4
  simp only [sBad] at c4
  have b2 := bdQ_g sErrW (atomT sBad)
  have hst := fun st p k => st_QG st p k sErrW (atomT sBad)
  have hst2 := fun t k p st => stE_G t k p st sErrW (atomT sBad)
  simp only [sErrW, sBad] at b2 hst hst2
  rcases he with he | ⟨e1, e2, e3⟩
  · have w5 : (m == ([101, 114, 108, 97, 110, 103] : List UInt8)) = false := beq_eq_false_iff_ne.mpr he
    simp only [simP, simB, keep4, Nat.reduceBEq, own4, String.reduceAppend, String.reduceBEq, Bool.or_false, Bool.or_true, Bool.or_self, ↓reduceIte, Nat.reduceEqDiff, Nat.reduceAdd, simA, simL, simN, Nat.zero_add, zev, List.toList_toArray, len9, ix9, zew, zex, zey, zez, zfa, zeroT, zeroQ, lenTk, i_eqlV, c1, b1, s_eqlS, w5, ia, ld, c3, c4, unA_not', Bool.not_true, Bool.not_false, zds, ldT_u, bdT_00, b2, st_Tt, stT_6, hst, hst2]
    exact finish_Q3 _ _ _ _ _ T0 _ _ _ _ _ _ _ _ (errG sErrW (atomT sBad)) rfl (by simp only [zfp, ↓reduceIte, Nat.reduceEqDiff]; try rfl) (by simp only [zfp, ↓reduceIte, Nat.reduceEqDiff]; try rfl) (by simp only [zfp, ↓reduceIte, Nat.reduceEqDiff]; try rfl) (by simp only [zfp, ↓reduceIte, Nat.reduceEqDiff]; try rfl) (by simp only [zfp, ↓reduceIte, Nat.reduceEqDiff]; try rfl) rfl
  · by_cases hm : m = erlW
    · have w5 : (m == ([101, 114, 108, 97, 110, 103] : List UInt8)) = true := by rw [hm]; decide
      simp only [simP, simB, keep4, Nat.reduceBEq, own4, String.reduceAppend, String.reduceBEq, Bool.or_false, Bool.or_true, Bool.or_self, ↓reduceIte, Nat.reduceEqDiff, Nat.reduceAdd, simA, simL, simN, Nat.zero_add, zev, List.toList_toArray, len9, ix9, zew, zex, zey, zez, zfa, zeroT, zeroQ, lenTk, i_eqlV, c1, b1, s_eqlS, w5, e1, e2, e3, ia, ld, c3, c4, unA_not', Bool.not_true, Bool.not_false, zds, ldT_u, bdT_00, b2, st_Tt, stT_6, hst, hst2]
      exact finish_Q3 _ _ _ _ _ T0 _ _ _ _ _ _ _ _ (errG sErrW (atomT sBad)) rfl (by simp only [zfp, ↓reduceIte, Nat.reduceEqDiff]; try rfl) (by simp only [zfp, ↓reduceIte, Nat.reduceEqDiff]; try rfl) (by simp only [zfp, ↓reduceIte, Nat.reduceEqDiff]; try rfl) (by simp only [zfp, ↓reduceIte, Nat.reduceEqDiff]; try rfl) (by simp only [zfp, ↓reduceIte, Nat.reduceEqDiff]; try rfl) rfl
    · have w5 : (m == ([101, 114, 108, 97, 110, 103] : List UInt8)) = false := beq_eq_false_iff_ne.mpr hm
      simp only [simP, simB, keep4, Nat.reduceBEq, own4, String.reduceAppend, String.reduceBEq, Bool.or_false, Bool.or_true, Bool.or_self, ↓reduceIte, Nat.reduceEqDiff, Nat.reduceAdd, simA, simL, simN, Nat.zero_add, zev, List.toList_toArray, len9, ix9, zew, zex, zey, zez, zfa, zeroT, zeroQ, lenTk, i_eqlV, c1, b1, s_eqlS, w5, ia, ld, c3, c4, unA_not', Bool.not_true, Bool.not_false, zds, ldT_u, bdT_00, b2, st_Tt, stT_6, hst, hst2]
      exact finish_Q3 _ _ _ _ _ T0 _ _ _ _ _ _ _ _ (errG sErrW (atomT sBad)) rfl (by simp only [zfp, ↓reduceIte, Nat.reduceEqDiff]; try rfl) (by simp only [zfp, ↓reduceIte, Nat.reduceEqDiff]; try rfl) (by simp only [zfp, ↓reduceIte, Nat.reduceEqDiff]; try rfl) (by simp only [zfp, ↓reduceIte, Nat.reduceEqDiff]; try rfl) (by simp only [zfp, ↓reduceIte, Nat.reduceEqDiff]; try rfl) rfl
set_option maxHeartbeats 8000000 in
theorem rcall_one_ok (u : T) (hn : nodT u ≤ 2000) (hh : hasW m s us.length = true) (hc : m ≠ erlW ∨ isThr s = false) (t : T) (hus : us = [t]) (ha : evalFn Tryz.prog cfg0 9223372036854775808 6190 36 [.tree (.str s), .tree (encT t)] = some (.tree (.tup [encT u, .bool true]), [[], []])) : evalFn Tryz.prog cfg4 n (d+4) 10 [.tree (.str m), .tree (.str s), .tree (.sl (cellsK us) us.length g)] = some (.tree (.tup [encT u, .agg zErr, .bool true]), [[], [], []]) := by
  have h1 := rhas_eq 9223372036854775808 6189 (by decide) (by decide) m s (us.length : Int)
  rw [hh] at h1
  have hT := okTreeW us g hg
  have c1 := fun D st => callA_trees (cfg := cfg4) (d := D) (s := st) (f := 13) (vs := [.str m, .str s, .int .i64 (us.length : Int)]) rfl (ev4 (n := n) (d := d+2) rfl rfl h1)
  have c3 := fun D st => callA_trees (cfg := cfg4) (d := D) (s := st) (f := 36) (vs := [.str s, encT t]) rfl (ev4 (n := n) (d := d+2) rfl rfl ha)
  have ia : ∀ st : St, indexAddrA Tryz.prog 22 st (.sl (cellsK [t]) [t].length g) (.int .i64 0) = some (.rptr (cellsK [t])) := fun st => ia_K st [t] g 0 (Nat.zero_lt_succ _)
  have ld := fun st => ld_KW st t []
  have b1 : ((([t].length : Nat) : Int) == 1) = true := rfl
  subst hus
  have he : m ≠ erlW ∨ ((s == ([101, 114, 114, 111, 114] : List UInt8)) = false ∧ (s == ([101, 120, 105, 116] : List UInt8)) = false ∧ (s == ([116, 104, 114, 111, 119] : List UInt8)) = false) := by
    rcases hc with h | h
    · exact .inl h
    · simp only [isThr, w_error, w_exit, w_throw, Bool.or_eq_false_iff] at h
      exact .inr h
  have c4 := fun D st => callA_trees (cfg := cfg4) (d := D) (s := st) (f := 38) (vs := [encT u, .int .i64 ((0 : Nat) : Int)]) rfl (ev4 (n := n) (d := d+2) rfl rfl (evalFn_mono (show 1000000 ≤ 9223372036854775808 by decide) 6190 6190 (Nat.le_refl _) _ _ _ (rMany_eq 1000000 (Nat.le_refl _) 6190 u 0 (by have := ht_nod u; omega) (by omega) (by omega))))
  rw [Nat.zero_add] at c4
  have c4 : ∀ D st, callA cfg4 (evalFn Tryz.prog cfg4 n (d+3)) D st 38 [encT u, .int .i64 0] = some (.int .i64 (nodT u : Int), st) := c4
  rw [evalFn_goP _ Tryz.func10 (by unfold Tryz.f10; rfl) (by unfold Tryz.f10; decide) (Nat.le_of_ble_eq_true (by unfold Tryz.f10; rfl)) (by kernel_rfl)]
  have q1 : ¬ ((nodT u : Int) > 2000) := by omega
  simp only [encT] at c3 c4
  rcases he with he | ⟨e1, e2, e3⟩
  · have w5 : (m == ([101, 114, 108, 97, 110, 103] : List UInt8)) = false := beq_eq_false_iff_ne.mpr he
    simp only [simP, simB, keep4, Nat.reduceBEq, own4, String.reduceAppend, String.reduceBEq, Bool.or_false, Bool.or_true, Bool.or_self, ↓reduceIte, Nat.reduceEqDiff, Nat.reduceAdd, simA, simL, simN, Nat.zero_add, zev, List.toList_toArray, len9, ix9, zew, zex, zey, zez, zfa, zeroT, zeroQ, lenTk, i_eqlV, c1, b1, s_eqlS, w5, ia, ld, c3, c4, unA_not', Bool.not_true, Bool.not_false, zds, q1, ldT_u, bdQ_, st_Tt, stT_6, st_Qz, stE_z]
    exact finish_Q3 _ _ _ _ _ u _ _ _ _ _ _ _ _ zErr rfl (by simp only [zfp, ↓reduceIte, Nat.reduceEqDiff]; try rfl) (by simp only [zfp, ↓reduceIte, Nat.reduceEqDiff]; try rfl) (by simp only [zfp, ↓reduceIte, Nat.reduceEqDiff]; try rfl) (by simp only [zfp, ↓reduceIte, Nat.reduceEqDiff]; try rfl) (by simp only [zfp, ↓reduceIte, Nat.reduceEqDiff]; try rfl) rfl
  · by_cases hm : m = erlW
    · have w5 : (m == ([101, 114, 108, 97, 110, 103] : List UInt8)) = true := by rw [hm]; decide
      simp only [simP, simB, keep4, Nat.reduceBEq, own4, String.reduceAppend, String.reduceBEq, Bool.or_false, Bool.or_true, Bool.or_self, ↓reduceIte, Nat.reduceEqDiff, Nat.reduceAdd, simA, simL, simN, Nat.zero_add, zev, List.toList_toArray, len9, ix9, zew, zex, zey, zez, zfa, zeroT, zeroQ, lenTk, i_eqlV, c1, b1, s_eqlS, w5, e1, e2, e3, ia, ld, c3, c4, unA_not', Bool.not_true, Bool.not_false, zds, q1, ldT_u, bdQ_, st_Tt, stT_6, st_Qz, stE_z]
      exact finish_Q3 _ _ _ _ _ u _ _ _ _ _ _ _ _ zErr rfl (by simp only [zfp, ↓reduceIte, Nat.reduceEqDiff]; try rfl) (by simp only [zfp, ↓reduceIte, Nat.reduceEqDiff]; try rfl) (by simp only [zfp, ↓reduceIte, Nat.reduceEqDiff]; try rfl) (by simp only [zfp, ↓reduceIte, Nat.reduceEqDiff]; try rfl) (by simp only [zfp, ↓reduceIte, Nat.reduceEqDiff]; try rfl) rfl
    · have w5 : (m == ([101, 114, 108, 97, 110, 103] : List UInt8)) = false := beq_eq_false_iff_ne.mpr hm
      simp only [simP, simB, keep4, Nat.reduceBEq, own4, String.reduceAppend, String.reduceBEq, Bool.or_false, Bool.or_true, Bool.or_self, ↓reduceIte, Nat.reduceEqDiff, Nat.reduceAdd, simA, simL, simN, Nat.zero_add, zev, List.toList_toArray, len9, ix9, zew, zex, zey, zez, zfa, zeroT, zeroQ, lenTk, i_eqlV, c1, b1, s_eqlS, w5, ia, ld, c3, c4, unA_not', Bool.not_true, Bool.not_false, zds, q1, ldT_u, bdQ_, st_Tt, stT_6, st_Qz, stE_z]
      exact finish_Q3 _ _ _ _ _ u _ _ _ _ _ _ _ _ zErr rfl (by simp only [zfp, ↓reduceIte, Nat.reduceEqDiff]; try rfl) (by simp only [zfp, ↓reduceIte, Nat.reduceEqDiff]; try rfl) (by simp only [zfp, ↓reduceIte, Nat.reduceEqDiff]; try rfl) (by simp only [zfp, ↓reduceIte, Nat.reduceEqDiff]; try rfl) (by simp only [zfp, ↓reduceIte, Nat.reduceEqDiff]; try rfl) rfl
set_option maxHeartbeats 8000000 in
theorem rcall_more_bad (u : T) (hh : hasW m s us.length = true) (hc : m ≠ erlW ∨ isThr s = false) (hl : us.length ≠ 1) (ha : evalFn Tryz.prog cfg4 n (d+3) 37 [.tree (.str s), .tree (.sl (cellsK us) us.length g)] = some (.tree (.tup [encT u, .bool false]), [[], []])) : evalFn Tryz.prog cfg4 n (d+4) 10 [.tree (.str m), .tree (.str s), .tree (.sl (cellsK us) us.length g)] = some (.tree (.tup [encT T0, .agg (errG sErrW (atomT sBad)), .bool false]), [[], [], []]) := by
  have h1 := rhas_eq 9223372036854775808 6189 (by decide) (by decide) m s (us.length : Int)
  rw [hh] at h1
  have hT := okTreeW us g hg
  have c1 := fun D st => callA_trees (cfg := cfg4) (d := D) (s := st) (f := 13) (vs := [.str m, .str s, .int .i64 (us.length : Int)]) rfl (ev4 (n := n) (d := d+2) rfl rfl h1)
  have c3 := fun D st => callA_trees (cfg := cfg4) (d := D) (s := st) (f := 37) (vs := [.str s, .sl (cellsK us) us.length g]) (by simp only [List.all_cons, hT]; rfl) ha
  have b1 : ((us.length : Int) == 1) = false := beq_eq_false_iff_ne.mpr (by omega)
  have he : m ≠ erlW ∨ ((s == ([101, 114, 114, 111, 114] : List UInt8)) = false ∧ (s == ([101, 120, 105, 116] : List UInt8)) = false ∧ (s == ([116, 104, 114, 111, 119] : List UInt8)) = false) := by
    rcases hc with h | h
    · exact .inl h
    · simp only [isThr, w_error, w_exit, w_throw, Bool.or_eq_false_iff] at h
      exact .inr h
  have c4 := fun D st => callA_trees (cfg := cfg4) (d := D) (s := st) (f := 30) (vs := [.str sBad]) rfl (ev4 (n := n) (d := d+2) rfl rfl (ratom_eq 9223372036854775808 6189 sBad))
  rw [evalFn_goP _ Tryz.func10 (by unfold Tryz.f10; rfl) (by unfold Tryz.f10; decide) (Nat.le_of_ble_eq_true (by unfold Tryz.f10; rfl)) (by kernel_rfl)]
  simp only [encT] at c3 c4
  simp only [sBad] at c4
  have b2 := bdQ_g sErrW (atomT sBad)
  have hst := fun st p k => st_QG st p k sErrW (atomT sBad)
  have hst2 := fun t k p st => stE_G t k p st sErrW (atomT sBad)
  simp only [sErrW, sBad] at b2 hst hst2
  rcases he with he | ⟨e1, e2, e3⟩
  · have w5 : (m == ([101, 114, 108, 97, 110, 103] : List UInt8)) = false := beq_eq_false_iff_ne.mpr he
    simp only [simP, simB, keep4, Nat.reduceBEq, own4, String.reduceAppend, String.reduceBEq, Bool.or_false, Bool.or_true, Bool.or_self, ↓reduceIte, Nat.reduceEqDiff, Nat.reduceAdd, simA, simL, simN, Nat.zero_add, zev, List.toList_toArray, len9, ix9, zew, zex, zey, zez, zfa, zeroT, zeroQ, lenTk, i_eqlV, c1, b1, s_eqlS, w5, c3, c4, unA_not', Bool.not_true, Bool.not_false, zds, ldT_u, bdT_00, b2, st_Tt, stT_6, hst, hst2]
    exact finish_Q3 _ _ _ _ _ T0 _ _ _ _ _ _ _ _ (errG sErrW (atomT sBad)) rfl (by simp only [zfp, ↓reduceIte, Nat.reduceEqDiff]; try rfl) (by simp only [zfp, ↓reduceIte, Nat.reduceEqDiff]; try rfl) (by simp only [zfp, ↓reduceIte, Nat.reduceEqDiff]; try rfl) (by simp only [zfp, ↓reduceIte, Nat.reduceEqDiff]; try rfl) (by simp only [zfp, ↓reduceIte, Nat.reduceEqDiff]; try rfl) rfl
  · by_cases hm : m = erlW
    · have w5 : (m == ([101, 114, 108, 97, 110, 103] : List UInt8)) = true := by rw [hm]; decide
      simp only [simP, simB, keep4, Nat.reduceBEq, own4, String.reduceAppend, String.reduceBEq, Bool.or_false, Bool.or_true, Bool.or_self, ↓reduceIte, Nat.reduceEqDiff, Nat.reduceAdd, simA, simL, simN, Nat.zero_add, zev, List.toList_toArray, len9, ix9, zew, zex, zey, zez, zfa, zeroT, zeroQ, lenTk, i_eqlV, c1, b1, s_eqlS, w5, e1, e2, e3, c3, c4, unA_not', Bool.not_true, Bool.not_false, zds, ldT_u, bdT_00, b2, st_Tt, stT_6, hst, hst2]
      exact finish_Q3 _ _ _ _ _ T0 _ _ _ _ _ _ _ _ (errG sErrW (atomT sBad)) rfl (by simp only [zfp, ↓reduceIte, Nat.reduceEqDiff]; try rfl) (by simp only [zfp, ↓reduceIte, Nat.reduceEqDiff]; try rfl) (by simp only [zfp, ↓reduceIte, Nat.reduceEqDiff]; try rfl) (by simp only [zfp, ↓reduceIte, Nat.reduceEqDiff]; try rfl) (by simp only [zfp, ↓reduceIte, Nat.reduceEqDiff]; try rfl) rfl
    · have w5 : (m == ([101, 114, 108, 97, 110, 103] : List UInt8)) = false := beq_eq_false_iff_ne.mpr hm
      simp only [simP, simB, keep4, Nat.reduceBEq, own4, String.reduceAppend, String.reduceBEq, Bool.or_false, Bool.or_true, Bool.or_self, ↓reduceIte, Nat.reduceEqDiff, Nat.reduceAdd, simA, simL, simN, Nat.zero_add, zev, List.toList_toArray, len9, ix9, zew, zex, zey, zez, zfa, zeroT, zeroQ, lenTk, i_eqlV, c1, b1, s_eqlS, w5, c3, c4, unA_not', Bool.not_true, Bool.not_false, zds, ldT_u, bdT_00, b2, st_Tt, stT_6, hst, hst2]
      exact finish_Q3 _ _ _ _ _ T0 _ _ _ _ _ _ _ _ (errG sErrW (atomT sBad)) rfl (by simp only [zfp, ↓reduceIte, Nat.reduceEqDiff]; try rfl) (by simp only [zfp, ↓reduceIte, Nat.reduceEqDiff]; try rfl) (by simp only [zfp, ↓reduceIte, Nat.reduceEqDiff]; try rfl) (by simp only [zfp, ↓reduceIte, Nat.reduceEqDiff]; try rfl) (by simp only [zfp, ↓reduceIte, Nat.reduceEqDiff]; try rfl) rfl
set_option maxHeartbeats 8000000 in
theorem rcall_more_ok (u : T) (hn : nodT u ≤ 2000) (hh : hasW m s us.length = true) (hc : m ≠ erlW ∨ isThr s = false) (hl : us.length ≠ 1) (ha : evalFn Tryz.prog cfg4 n (d+3) 37 [.tree (.str s), .tree (.sl (cellsK us) us.length g)] = some (.tree (.tup [encT u, .bool true]), [[], []])) : evalFn Tryz.prog cfg4 n (d+4) 10 [.tree (.str m), .tree (.str s), .tree (.sl (cellsK us) us.length g)] = some (.tree (.tup [encT u, .agg zErr, .bool true]), [[], [], []]) := by
  have h1 := rhas_eq 9223372036854775808 6189 (by decide) (by decide) m s (us.length : Int)
  rw [hh] at h1
  have hT := okTreeW us g hg
  have c1 := fun D st => callA_trees (cfg := cfg4) (d := D) (s := st) (f := 13) (vs := [.str m, .str s, .int .i64 (us.length : Int)]) rfl (ev4 (n := n) (d := d+2) rfl rfl h1)
  have c3 := fun D st => callA_trees (cfg := cfg4) (d := D) (s := st) (f := 37) (vs := [.str s, .sl (cellsK us) us.length g]) (by simp only [List.all_cons, hT]; rfl) ha
  have b1 : ((us.length : Int) == 1) = false := beq_eq_false_iff_ne.mpr (by omega)
  have he : m ≠ erlW ∨ ((s == ([101, 114, 114, 111, 114] : List UInt8)) = false ∧ (s == ([101, 120, 105, 116] : List UInt8)) = false ∧ (s == ([116, 104, 114, 111, 119] : List UInt8)) = false) := by
    rcases hc with h | h
    · exact .inl h
    · simp only [isThr, w_error, w_exit, w_throw, Bool.or_eq_false_iff] at h
      exact .inr h
  have c4 := fun D st => callA_trees (cfg := cfg4) (d := D) (s := st) (f := 38) (vs := [encT u, .int .i64 ((0 : Nat) : Int)]) rfl (ev4 (n := n) (d := d+2) rfl rfl (evalFn_mono (show 1000000 ≤ 9223372036854775808 by decide) 6190 6190 (Nat.le_refl _) _ _ _ (rMany_eq 1000000 (Nat.le_refl _) 6190 u 0 (by have := ht_nod u; omega) (by omega) (by omega))))
  rw [Nat.zero_add] at c4
  have c4 : ∀ D st, callA cfg4 (evalFn Tryz.prog cfg4 n (d+3)) D st 38 [encT u, .int .i64 0] = some (.int .i64 (nodT u : Int), st) := c4
  rw [evalFn_goP _ Tryz.func10 (by unfold Tryz.f10; rfl) (by unfold Tryz.f10; decide) (Nat.le_of_ble_eq_true (by unfold Tryz.f10; rfl)) (by kernel_rfl)]
  have q1 : ¬ ((nodT u : Int) > 2000) := by omega
  simp only [encT] at c3 c4
  rcases he with he | ⟨e1, e2, e3⟩
  · have w5 : (m == ([101, 114, 108, 97, 110, 103] : List UInt8)) = false := beq_eq_false_iff_ne.mpr he
    simp only [simP, simB, keep4, Nat.reduceBEq, own4, String.reduceAppend, String.reduceBEq, Bool.or_false, Bool.or_true, Bool.or_self, ↓reduceIte, Nat.reduceEqDiff, Nat.reduceAdd, simA, simL, simN, Nat.zero_add, zev, List.toList_toArray, len9, ix9, zew, zex, zey, zez, zfa, zeroT, zeroQ, lenTk, i_eqlV, c1, b1, s_eqlS, w5, c3, c4, unA_not', Bool.not_true, Bool.not_false, zds, q1, ldT_u, bdQ_, st_Tt, stT_6, st_Qz, stE_z]
    exact finish_Q3 _ _ _ _ _ u _ _ _ _ _ _ _ _ zErr rfl (by simp only [zfp, ↓reduceIte, Nat.reduceEqDiff]; try rfl) (by simp only [zfp, ↓reduceIte, Nat.reduceEqDiff]; try rfl) (by simp only [zfp, ↓reduceIte, Nat.reduceEqDiff]; try rfl) (by simp only [zfp, ↓reduceIte, Nat.reduceEqDiff]; try rfl) (by simp only [zfp, ↓reduceIte, Nat.reduceEqDiff]; try rfl) rfl
  · by_cases hm : m = erlW
    · have w5 : (m == ([101, 114, 108, 97, 110, 103] : List UInt8)) = true := by rw [hm]; decide
      simp only [simP, simB, keep4, Nat.reduceBEq, own4, String.reduceAppend, String.reduceBEq, Bool.or_false, Bool.or_true, Bool.or_self, ↓reduceIte, Nat.reduceEqDiff, Nat.reduceAdd, simA, simL, simN, Nat.zero_add, zev, List.toList_toArray, len9, ix9, zew, zex, zey, zez, zfa, zeroT, zeroQ, lenTk, i_eqlV, c1, b1, s_eqlS, w5, e1, e2, e3, c3, c4, unA_not', Bool.not_true, Bool.not_false, zds, q1, ldT_u, bdQ_, st_Tt, stT_6, st_Qz, stE_z]
      exact finish_Q3 _ _ _ _ _ u _ _ _ _ _ _ _ _ zErr rfl (by simp only [zfp, ↓reduceIte, Nat.reduceEqDiff]; try rfl) (by simp only [zfp, ↓reduceIte, Nat.reduceEqDiff]; try rfl) (by simp only [zfp, ↓reduceIte, Nat.reduceEqDiff]; try rfl) (by simp only [zfp, ↓reduceIte, Nat.reduceEqDiff]; try rfl) (by simp only [zfp, ↓reduceIte, Nat.reduceEqDiff]; try rfl) rfl
    · have w5 : (m == ([101, 114, 108, 97, 110, 103] : List UInt8)) = false := beq_eq_false_iff_ne.mpr hm
      simp only [simP, simB, keep4, Nat.reduceBEq, own4, String.reduceAppend, String.reduceBEq, Bool.or_false, Bool.or_true, Bool.or_self, ↓reduceIte, Nat.reduceEqDiff, Nat.reduceAdd, simA, simL, simN, Nat.zero_add, zev, List.toList_toArray, len9, ix9, zew, zex, zey, zez, zfa, zeroT, zeroQ, lenTk, i_eqlV, c1, b1, s_eqlS, w5, c3, c4, unA_not', Bool.not_true, Bool.not_false, zds, q1, ldT_u, bdQ_, st_Tt, stT_6, st_Qz, stE_z]
      exact finish_Q3 _ _ _ _ _ u _ _ _ _ _ _ _ _ zErr rfl (by simp only [zfp, ↓reduceIte, Nat.reduceEqDiff]; try rfl) (by simp only [zfp, ↓reduceIte, Nat.reduceEqDiff]; try rfl) (by simp only [zfp, ↓reduceIte, Nat.reduceEqDiff]; try rfl) (by simp only [zfp, ↓reduceIte, Nat.reduceEqDiff]; try rfl) (by simp only [zfp, ↓reduceIte, Nat.reduceEqDiff]; try rfl) rfl
end
end Go.Ab

/- What bif.Call and relictref19.Call answer of terms that are few, name by name (CFG4). Conditions: terms that are few. -/
namespace Go.Ab
open Go.Proofs
set_option maxRecDepth 100000
set_option linter.unusedSimpArgs false

mutual
theorem big_copy (m : Nat) : ∀ t : T, bigT m t → bigT m (copyT t)
  | .mk k b lg l s n kg ks, h => by
    simp only [bigT] at h
    simp only [copyT, bigT]
    exact ⟨h.1, h.2.1, bigK_copy m ks h.2.2⟩
theorem bigK_copy (m : Nat) : ∀ ks : List T, bigK m ks → bigK m (copyK ks)
  | [], _ => by simp only [copyK, bigK]
  | t :: r, h => by
    simp only [bigK] at h
    simp only [copyK, bigK]
    exact ⟨big_copy m t h.1, bigK_copy m r h.2⟩
end
structure FewY (t : T) : Prop where
  few : fewT 100000 t
  nod : nodT t ≤ 100
  big : bigT 9223372036854775808 t
  lim : Limbs (limT t)
  str : (strT t).length ≤ 500
  lml : (limT t).length ≤ 40
theorem FewY.copy {t : T} (h : FewY t) : FewY (copyT t) :=
  ⟨few_copy _ _ h.few, by rw [nod_copy]; exact h.nod, big_copy _ _ h.big, by rw [lim_copy]; exact h.lim, by rw [str_copy]; exact h.str, by rw [lim_copy]; exact h.lml⟩
theorem fewY_of (t : T) (hb : bigT 9223372036854775808 t) (h : lgT t 100 ≥ 0) : FewY t := by
  have h1 := fewX_of t hb h
  have h2 := lgT_ok t 100 h
  obtain ⟨k, b, lg, l, s, m, kg, ks⟩ := t
  have := h2.1
  simp only [leanT] at this
  exact ⟨h1.few, h1.nod, hb, h1.lim, this.2.1, this.1⟩
theorem FewY.kids {t : T} (h : FewY t) : (kidsT t).length ≤ 100 ∧ nodK (kidsT t) + 1 = nodT t ∧ fewK 100000 (kidsT t) := by
  have h1 := h.few
  have h2 := h.nod
  obtain ⟨k, b, lg, l, s, m, kg, ks⟩ := t
  simp only [fewT] at h1
  simp only [nodT] at h2
  have h3 := nodK_len ks
  refine ⟨by show ks.length ≤ 100; omega, by simp only [nodT]; show nodK ks + 1 = _; omega, h1.2.2⟩
theorem B40_ten : B ^ 40 < 10 ^ 386 := by decide
theorem FewY.text {t : T} (h : FewY t) : (textZ (zOfT t)).length ≤ 500 := by
  have h1 : (zOfT t).natAbs < B ^ 40 := by
    have hv := val_lt (limT t) h.lim
    have hp : B ^ (limT t).length ≤ B ^ 40 := Nat.pow_le_pow_right (by decide) h.lml
    unfold zOfT numZ
    split
    · split
      · rw [Int.natAbs_neg, Int.natAbs_natCast]; omega
      · rw [Int.natAbs_natCast]; omega
    · show 0 < _
      omega
  have := dec_len 386 _ (Nat.lt_trans h1 B40_ten)
  unfold textZ
  (repeat' split)
  · decide
  · rw [List.length_cons]; omega
  · omega
theorem kidT_nod (t : T) : ∀ (ks : List T) (i : Nat), nodT (ks.getD i T0) ≤ nodK ks + 1
  | [], i => by show nodT T0 ≤ _; simp only [T0, nodT, nodK]; omega
  | a :: r, 0 => by show nodT a ≤ _; simp only [nodK]; omega
  | a :: r, i + 1 => by
    have := kidT_nod t r i
    simp only [nodK, List.getD_cons_succ]
    omega
theorem zOf_copy (t : T) : zOfT (copyT t) = zOfT t := by obtain ⟨k, b, lg, l, s, m, kg, ks⟩ := t; rfl
theorem kind_copy (t : T) : kindT (copyT t) = kindT t := by obtain ⟨k, b, lg, l, s, m, kg, ks⟩ := t; rfl
def okY (u : T) : Prop := okX u ∧ nodT u ≤ 2000
theorem okY_of (u : T) (h : fewT 100000 u) (hn : nodT u ≤ 2000) : okY u := ⟨okX_nod u h hn, hn⟩
theorem okY_0 : okY T0 := ⟨okX_0, by decide⟩
theorem one_nod (op : Int) (t : T) (h : FewY t) : nodT (oneT smallT op t).1 ≤ 2000 := by
  have hk := h.kids
  have hn := h.nod
  have h0 : nodT T0 ≤ 2000 := by decide
  unfold oneT
  split
  · have := kidT_nod t (kidsT t) (op.toNat - 1)
    show nodT ((kidsT t).getD (op.toNat - 1) T0) ≤ 2000
    omega
  · split
    · show 1 ≤ 2000; omega
    · split
      · show 1 ≤ 2000; omega
      · split
        · split
          · show 1 ≤ 2000; omega
          · exact h0
        · exact h0
theorem one_okY (op : Int) (t : T) (h : FewY t) : okY (oneT smallT op t).1 := ⟨one_ok op t h.few (by have := h.nod; omega) (by have := h.str; omega), one_nod op t h⟩
theorem two_okY (op : Int) (a b : T) (h : FewY b) : okY (twoT op a b).1 := by
  have hk := h.kids
  have hn := h.nod
  refine ⟨two_ok op a b h.few (by omega), ?_⟩
  unfold twoT
  split
  · have := kidT_nod b (kidsT b) ((zOfT a).toNat - 1)
    show nodT ((kidsT b).getD ((zOfT a).toNat - 1) T0) ≤ 2000
    omega
  · decide
theorem few_list {m : Nat} (hm : 3 ≤ m) : ∀ (us : List T) (t : T), fewK m us → fewT m t → fewT m (listT us t)
  | [], t, _, h => h
  | a :: r, t, h, k => by
    simp only [fewK] at h
    simp only [listT, consT, fewT, fewK, List.length_nil, List.length_cons, and_true]
    exact ⟨by omega, by omega, h.1, few_list hm r t h.2 k⟩
theorem few_nil : fewT 100000 nilT' := (okX_leaf 3 false .n [] [] 0 (by simp)).1
theorem bareK_txt (s : List UInt8) : bareK (txtT s) = bareK (itxT s) := by
  rw [bareK_map, bareK_map, txtT, itxT, List.map_map, List.map_map]; rfl
theorem okY_list (us : List T) (t : T) (h1 : fewK 100000 us) (h2 : fewT 100000 t) (h3 : us.length + nodK us + nodT t ≤ 2000) : okY (listT us t) := okY_of _ (few_list (by omega) us t h1 h2) (by rw [nod_list]; exact h3)
theorem fewK_rev {m : Nat} {us : List T} (h : fewK m us) : fewK m us.reverse := fewK_of fun t ht => fewK_mem h t (List.mem_reverse.1 ht)
theorem nodK_rev : ∀ us : List T, nodK us.reverse = nodK us
  | [] => rfl
  | a :: r => by
    have := nodK_rev r
    rw [List.reverse_cons, nodK_app, this]
    simp only [nodK]; omega
theorem nodK_set : ∀ (us : List T) (i : Nat) (w : T), nodK (us.set i w) ≤ nodK us + nodT w
  | [], _, _ => by simp [nodK]
  | a :: r, 0, w => by simp only [List.set_cons_zero, nodK]; omega
  | a :: r, i + 1, w => by
    have := nodK_set r i w
    simp only [List.set_cons_succ, nodK]; omega
theorem fewK_set {m : Nat} : ∀ (us : List T) (i : Nat) (w : T), fewK m us → fewT m w → fewK m (us.set i w)
  | [], _, _, _, _ => by simp [fewK]
  | a :: r, 0, w, h, k => by simp only [fewK] at h; simp only [List.set_cons_zero, fewK]; exact ⟨k, h.2⟩
  | a :: r, i + 1, w, h, k => by
    simp only [fewK] at h
    simp only [List.set_cons_succ, fewK]; exact ⟨h.1, fewK_set r i w h.2 k⟩
theorem bare_tup (kg kg' : Gk) {us us' : List T} (h : bareK us = bareK us') : bareT (tupT kg us) = bareT (tupT kg' us') := by simp only [tupT, bareT, h]
structure Ans1 (name : List UInt8) (t : T) (x y : T) (o : Bool) : Prop where
  p : evalFn Tryz.prog cfg0 9223372036854775808 6190 62 [.tree (.str name), .tree (encT (copyT t))] = some (.tree (.tup [encT x, .bool o]), [[], []])
  q : evalFn Tryz.prog cfg0 9223372036854775808 6190 36 [.tree (.str name), .tree (encT t)] = some (.tree (.tup [encT y, .bool o]), [[], []])
  ok : okY x
  same : bareT x = bareT y
theorem nod_bare2 {x y : T} (h : bareT x = bareT y) (hx : nodT x ≤ 2000) : nodT y ≤ 2000 := by rw [← nod_eqB h]; exact hx
theorem ans1_idx (name : List UInt8) (k : Nat) (hk : k ≤ 4) (hn : isRev [.tree (.str name), .tree (.bool true)] = false) (hx : evalFn Tryz.prog cfg0 100000 20 61 [.tree (.sl five 5 .tight), .tree (.str name)] = some (.tree (.int .i64 (k : Int)), [[], []]))
    (hnm : ∀ i, i < k → (nm5 i == name) = false) (hk1 : (nm5 k == name) = true) (t : T) (h : FewY t) : ∃ x y o, Ans1 name t x y o := by
  have hs := h.str
  have hkl := h.kids.1
  have hnd := h.nod
  have hp := bone_idx 9223372036854775808 6189 (by decide) (by decide) name k hk hn hx (copyT t) (by rw [nod_copy]; omega) (by rw [kids_copy, copyK_len]; omega) (by rw [str_copy]; omega)
  have hq := rones_idx 9223372036854775808 6183 (by decide) name k hk hnm hk1 t (by omega) (by omega) (by omega)
  obtain ⟨e1, e2⟩ := bare_one ((k + 1 : Nat) : Int) (copyT t) t (bare_copy t)
  refine ⟨_, _, _, hp, ?_, one_okY _ _ h.copy, e1⟩
  rw [e2]; exact hq
theorem ans1_hd (t : T) (h : FewY t) : ∃ x y o, Ans1 w_hd t x y o := ans1_idx w_hd 0 (by decide) (by decide) bidx_hd (fun i hi => by omega) (by decide) t h
theorem ans1_tl (t : T) (h : FewY t) : ∃ x y o, Ans1 w_tl t x y o := ans1_idx w_tl 1 (by decide) (by decide) bidx_tl (by decide) (by decide) t h
theorem ans1_tuple_size (t : T) (h : FewY t) : ∃ x y o, Ans1 w_tuple_size t x y o := ans1_idx w_tuple_size 2 (by decide) (by decide) bidx_tuple_size (by decide) (by decide) t h
theorem ans1_byte_size (t : T) (h : FewY t) : ∃ x y o, Ans1 w_byte_size t x y o := ans1_idx w_byte_size 3 (by decide) (by decide) bidx_byte_size (by decide) (by decide) t h
theorem ans1_length (t : T) (h : FewY t) : ∃ x y o, Ans1 w_length t x y o := ans1_idx w_length 4 (by decide) (by decide) bidx_length (by decide) (by decide) t h
theorem ans1_list_to_tuple (t : T) (h : FewY t) : ∃ x y o, Ans1 w_list_to_tuple t x y o := by
  have hnd := h.nod
  have hp := bone_list_to_tuple 9223372036854775808 6189 (by decide) (by decide) (copyT t)
  have hq := rones_list_to_tuple 9223372036854775808 6183 (by decide) t (by omega)
  rcases items_eqB (bare_copy t) with ⟨h1, h2⟩ | ⟨us, us', h1, h2, hb⟩
  · rw [l2t_none _ _ h1] at hp
    rw [l2t_none _ _ h2] at hq
    exact ⟨_, _, _, hp, hq, okY_0, rfl⟩
  · have hl := len_eqB hb
    by_cases h40 : us.length ≤ 40
    · rw [l2t_yes _ _ us h1 h40] at hp
      rw [l2t_yes _ _ us' h2 (by omega)] at hq
      have hnk := items_nod (copyT t) us h1
      have hfk := items_few 100000 (copyT t) us h1 (few_copy _ _ h.few)
      rw [nod_copy] at hnk
      refine ⟨_, _, _, hp, hq, okY_of _ ?_ ?_, bare_tup (kgOf us) .l hb⟩
      · simp only [tupJ, fewT, List.length_nil]; exact ⟨by omega, by omega, hfk⟩
      · simp only [tupJ, nodT]; omega
    · rw [l2t_no _ _ us h1 h40] at hp
      rw [l2t_no _ _ us' h2 (by omega)] at hq
      exact ⟨_, _, _, hp, hq, okY_0, rfl⟩
theorem ans1_tuple_to_list (t : T) (h : FewY t) : ∃ x y o, Ans1 w_tuple_to_list t x y o := by
  have hnd := h.nod
  have hkl := h.kids
  have hp := bone_tuple_to_list 9223372036854775808 6189 (by decide) (by decide) (copyT t) (by rw [kids_copy, copyK_len]; omega)
  have hq := rones_tuple_to_list 9223372036854775808 6183 (by decide) t (by omega) (by omega) (by omega)
  by_cases hk : kindT t = 5
  · rw [t2l_yes _ (by rw [kind_copy]; exact hk)] at hp
    rw [t2l_yes _ hk] at hq
    refine ⟨_, _, _, hp, hq, okY_list _ _ ?_ few_nil ?_, list_eqB (by rw [kids_copy, bareK_copy]) rfl⟩
    · rw [kids_copy]; exact fewK_copy _ _ hkl.2.2
    · rw [kids_copy, copyK_len, nodK_copy]
      have e : nodT nilT' = 1 := rfl
      omega
  · rw [t2l_no _ (by rw [kind_copy]; exact hk)] at hp
    rw [t2l_no _ hk] at hq
    exact ⟨_, _, _, hp, hq, okY_0, rfl⟩
theorem okY_txt (s : List UInt8) (hs : s.length ≤ 500) : okY (listT (txtT s) nilT') := by
  refine okY_of _ (few_list (by omega) _ _ (few_txt (by omega) s) few_nil) ?_
  rw [nod_txt]; omega
theorem ans1_integer_to_list (t : T) (h : FewY t) : ∃ x y o, Ans1 w_integer_to_list t x y o := by
  have hnd := h.nod
  have ht := h.text
  have hp := bone_integer_to_list 9223372036854775808 6189 (by decide) (by decide) (copyT t) (by rw [lim_copy]; exact h.lim) (by rw [zOf_copy]; omega)
  have hq := rones_integer_to_list 9223372036854775808 6183 (by decide) t (by omega) h.lim (by omega)
  by_cases hk : kindT t = 1
  · rw [itl_yes _ _ (by rw [kind_copy]; exact hk), zOf_copy] at hp
    rw [itl_yes _ _ hk] at hq
    exact ⟨_, _, _, hp, hq, okY_txt _ ht, list_eqB (bareK_txt _) rfl⟩
  · rw [itl_no _ _ (by rw [kind_copy]; exact hk)] at hp
    rw [itl_no _ _ hk] at hq
    exact ⟨_, _, _, hp, hq, okY_0, rfl⟩
theorem ans1_atom_to_list (t : T) (h : FewY t) : ∃ x y o, Ans1 w_atom_to_list t x y o := by
  have hnd := h.nod
  have ht := h.str
  have hp := bone_atom_to_list 9223372036854775808 6189 (by decide) (by decide) (copyT t) (by rw [str_copy]; omega)
  have hq := rones_atom_to_list 9223372036854775808 6183 (by decide) t (by omega) (by omega)
  by_cases hk : kindT t = 2
  · rw [atl_yes _ _ (by rw [kind_copy]; exact hk), str_copy] at hp
    rw [atl_yes _ _ hk] at hq
    exact ⟨_, _, _, hp, hq, okY_txt _ ht, list_eqB (bareK_txt _) rfl⟩
  · rw [atl_no _ _ (by rw [kind_copy]; exact hk)] at hp
    rw [atl_no _ _ hk] at hq
    exact ⟨_, _, _, hp, hq, okY_0, rfl⟩
theorem ans1_reverse (t : T) (h : FewY t) : ∃ x y o, Ans1 w_reverse t x y o := by
  have hnd := h.nod
  have hp := bone_reverse 9223372036854775808 6189 (copyT t) (by rw [nod_copy]; omega)
  have hq := rones_reverse 9223372036854775808 6183 (by decide) t (by omega)
  rcases items_eqB (bare_copy t) with ⟨h1, h2⟩ | ⟨us, us', h1, h2, hb⟩
  · rw [rev_no _ h1] at hp
    rw [rev_no _ h2] at hq
    exact ⟨_, _, _, hp, hq, okY_0, rfl⟩
  · have hnk := items_nod (copyT t) us h1
    have hfk := items_few 100000 (copyT t) us h1 (few_copy _ _ h.few)
    rw [nod_copy] at hnk
    rw [rev_yes _ us h1] at hp
    rw [rev_yes _ us' h2] at hq
    refine ⟨_, _, _, hp, hq, okY_list _ _ (fewK_rev hfk) few_nil ?_, list_eqB (rev_eqB hb) rfl⟩
    rw [List.length_reverse, nodK_rev]
    have e : nodT nilT' = 1 := rfl
    omega
end Go.Ab

/- What bif.answer and relictref19.more answer of two and three terms that are few (CFG4). Conditions: terms that are few. -/
namespace Go.Ab
open Go.Proofs
set_option maxRecDepth 100000
set_option linter.unusedSimpArgs false

set_option maxHeartbeats 4000000 in
theorem banswer1W (n d : Nat) (name : List UInt8) (t u : T) (v : Bool) (g : Grip) (h : evalFn Tryz.prog cfg0 9223372036854775808 6190 62 [.tree (.str name), .tree (encT t)] = some (.tree (.tup [encT u, .bool v]), [[], []])) :
    evalFn Tryz.prog cfg4 n (d+2) 34 [.tree (.str name), .tree (.sl (cellsK [t]) [t].length g)] = some (.tree (.tup [encT u, .bool v]), [[], []]) := by
  rw [evalFn_go _ Tryz.func34 (by unfold Tryz.f34; rfl) (by unfold Tryz.f34; decide) (Nat.le_of_ble_eq_true (by unfold Tryz.f34; rfl)) (by kernel_rfl)]
  have c := fun D st => callA_trees (cfg := cfg4) (d := D) (s := st) (f := 62) (vs := [.str name, encT t]) rfl (ev4 (n := n) (d := d) rfl rfl h)
  simp only [encT] at c
  have q1 : (([t].length : Int) == 1) = true := rfl
  have ia : ∀ st : St, indexAddrA Tryz.prog 22 st (.sl (cellsK [t]) [t].length g) (.int .i64 0) = some (.rptr (cellsK [t])) := fun st => ia_K st [t] g 0 (Nat.zero_lt_succ _)
  have ld := fun st => ld_KW st t []
  simp only [simB, keep4, Nat.reduceBEq, own4, String.reduceAppend, String.reduceBEq, Bool.or_false, Bool.or_true, Bool.or_self, ↓reduceIte, Nat.reduceEqDiff, Nat.reduceAdd, simA, simL, simN, Nat.zero_add, zeroT, lenTk, i_eqlV, q1, ia, ld, c, zds, st_Tt, stT_6]
  exact finish_T2 _ _ _ _ _ u _ _ _ _ _ (by simp only [zfp, ↓reduceIte, Nat.reduceEqDiff]; try rfl) (by simp only [zfp, ↓reduceIte, Nat.reduceEqDiff]; try rfl) (by simp only [zfp, ↓reduceIte, Nat.reduceEqDiff]; try rfl) rfl
set_option maxHeartbeats 4000000 in
theorem banswer2W (n d : Nat) (name : List UInt8) (a b u : T) (v : Bool) (g : Grip) (h : evalFn Tryz.prog cfg0 9223372036854775808 6190 63 [.tree (.str name), .tree (encT a), .tree (encT b)] = some (.tree (.tup [encT u, .bool v]), [[], [], []])) :
    evalFn Tryz.prog cfg4 n (d+2) 34 [.tree (.str name), .tree (.sl (cellsK [a, b]) [a, b].length g)] = some (.tree (.tup [encT u, .bool v]), [[], []]) := by
  rw [evalFn_go _ Tryz.func34 (by unfold Tryz.f34; rfl) (by unfold Tryz.f34; decide) (Nat.le_of_ble_eq_true (by unfold Tryz.f34; rfl)) (by kernel_rfl)]
  have c := callQ_trees (f := 63) (vs := [.str name, encT a, encT b]) rfl (ev4 (n := n) (d := d) rfl rfl h)
  have c' := fun D st => callA_trees (cfg := cfg4) (d := D) (s := st) (f := 63) (vs := [.str name, encT a, encT b]) rfl (ev4 (n := n) (d := d) rfl rfl h)
  simp only [encT] at c c'
  have q1 : (([a, b].length : Int) == 1) = false := rfl
  have q2 : (([a, b].length : Int) == 2) = true := rfl
  have ia : ∀ st : St, indexAddrA Tryz.prog 22 st (.sl (cellsK [a, b]) [a, b].length g) (.int .i64 0) = some (.rptr (cellsK [a, b])) := fun st => ia_K st [a, b] g 0 (Nat.zero_lt_succ _)
  have ib : ∀ st : St, indexAddrA Tryz.prog 22 st (.sl (cellsK [a, b]) [a, b].length g) (.int .i64 1) = some (.rptr (cellsK [b])) := fun st => ia_K st [a, b] g 1 (Nat.lt_succ_self _)
  have ld := fun st => ld_KW st a [b]
  have ld2 := fun st => ld_KW st b []
  simp only [simB, keep4, Nat.reduceBEq, own4, String.reduceAppend, String.reduceBEq, Bool.or_false, Bool.or_true, Bool.or_self, ↓reduceIte, Nat.reduceEqDiff, Nat.reduceAdd, simA, simL, simN, Nat.zero_add, zeroT, lenTk, i_eqlV, q1, q2, ia, ib, ld, ld2, c, c', zds, st_Tt, stT_6]
  exact finish_T2 _ _ _ _ _ u _ _ _ _ _ (by simp only [zfp, ↓reduceIte, Nat.reduceEqDiff]; try rfl) (by simp only [zfp, ↓reduceIte, Nat.reduceEqDiff]; try rfl) (by simp only [zfp, ↓reduceIte, Nat.reduceEqDiff]; try rfl) rfl
structure AnsN (name : List UInt8) (us : List T) (x y : T) (o : Bool) : Prop where
  p : ∀ n d, evalFn Tryz.prog cfg4 n (d+2) 34 [.tree (.str name), .tree (.sl (cellsK (copyK us)) (copyK us).length .loose)] = some (.tree (.tup [encT x, .bool o]), [[], []])
  q : ∀ n d, 2000 < n → evalFn Tryz.prog cfg4 n (d+2) 37 [.tree (.str name), .tree (.sl (cellsK us) us.length .loose)] = some (.tree (.tup [encT y, .bool o]), [[], []])
  ok : okY x ∨ o = false
  same : bareT x = bareT y ∨ o = false
theorem two2 (name : List UInt8) (a b x y : T) (o : Bool) (hp : evalFn Tryz.prog cfg0 9223372036854775808 6190 63 [.tree (.str name), .tree (encT (copyT a)), .tree (encT (copyT b))] = some (.tree (.tup [encT x, .bool o]), [[], [], []]))
    (hq : ∀ n d, 2000 < n → evalFn Tryz.prog cfg4 n (d+2) 37 [.tree (.str name), .tree (.sl (cellsK [a, b]) [a, b].length .loose)] = some (.tree (.tup [encT y, .bool o]), [[], []])) (hok : okY x ∨ o = false) (hs : bareT x = bareT y ∨ o = false) : AnsN name [a, b] x y o :=
  ⟨fun n d => banswer2W n d name (copyT a) (copyT b) x o .loose hp, hq, hok, hs⟩
section
variable (a b : T) (ya : FewY a) (yb : FewY b)
include ya yb
theorem ans_element : ∃ x y o, AnsN w_element [a, b] x y o := by
  have na := ya.nod
  have nb := yb.nod
  have hp := btwo_element 9223372036854775808 6189 (by decide) (by decide) (copyT a) (copyT b) ya.copy.lim
  obtain ⟨e1, e2⟩ := bare_two 1 (copyT a) (copyT b) a b (bare_copy a) (bare_copy b)
  exact ⟨_, _, _, two2 _ _ _ _ _ _ hp (fun n d _ => by rw [e2]; exact rmore_element n d a b [] .loose rfl (by omega) (by omega) ya.lim) (.inl (two_okY _ _ _ yb.copy)) (.inl e1)⟩
theorem ans_pp : ∃ x y o, AnsN w_pp [a, b] x y o := by
  have na := ya.nod
  have nb := yb.nod
  have hp := btwo_pp 9223372036854775808 6189 (by decide) (by decide) (copyT a) (copyT b) (by rw [nod_copy]; omega)
  have hq := fun n d => rmore_pp n d a b [] .loose rfl (by omega) (by omega)
  rcases items_eqB (bare_copy a) with ⟨h1, h2⟩ | ⟨us, us', h1, h2, hb⟩
  · rw [pp_no _ _ h1] at hp
    simp only [ppR_no a b h2] at hq
    exact ⟨_, _, _, two2 _ _ _ _ _ _ hp (fun n d _ => hq n d) (.inr rfl) (.inr rfl)⟩
  · have hnk := items_nod (copyT a) us h1
    have hfk := items_few 100000 (copyT a) us h1 (few_copy _ _ ya.few)
    rw [nod_copy] at hnk
    rw [pp_yes _ _ us h1] at hp
    simp only [ppR_yes a b us' h2] at hq
    refine ⟨_, _, _, two2 _ _ _ _ _ _ hp (fun n d _ => hq n d) (.inl (okY_list _ _ hfk (few_copy _ _ yb.few) ?_)) (.inl (list_eqB hb (bare_copy b)))⟩
    rw [nod_copy]; omega
theorem okY_copy : okY (copyT a) ∧ okY (copyT b) := by
  have na := ya.copy.nod
  have nb := yb.copy.nod
  exact ⟨okY_of _ ya.copy.few (by omega), okY_of _ yb.copy.few (by omega)⟩
theorem ans_max : ∃ x y o, AnsN w_max [a, b] x y o := by
  have na := ya.nod
  have nb := yb.nod
  have hp := btwo_max 9223372036854775808 6189 (by decide) (by decide) (copyT a) (copyT b) ya.copy.big yb.copy.big (by rw [nod_copy]; omega)
  refine ⟨_, _, _, two2 _ _ _ _ (maxX a b) _ hp (fun n d _ => rmore_max n d a b [] .loose rfl (by omega) (by omega) ya.big yb.big (by omega)) (.inl ?_) (.inl ?_)⟩
  · have := okY_copy a b ya yb
    unfold maxX
    split
    · exact this.1
    · exact this.2
  · unfold maxX
    rw [cmp_eqB (bare_copy a) (bare_copy b)]
    split
    · exact bare_copy a
    · exact bare_copy b
theorem ans_min : ∃ x y o, AnsN w_min [a, b] x y o := by
  have na := ya.nod
  have nb := yb.nod
  have hp := btwo_min 9223372036854775808 6189 (by decide) (by decide) (copyT a) (copyT b) ya.copy.big yb.copy.big (by rw [nod_copy]; omega)
  refine ⟨_, _, _, two2 _ _ _ _ (minX a b) _ hp (fun n d _ => rmore_min n d a b [] .loose rfl (by omega) (by omega) ya.big yb.big (by omega)) (.inl ?_) (.inl ?_)⟩
  · have := okY_copy a b ya yb
    unfold minX
    split
    · exact this.1
    · exact this.2
  · unfold minX
    rw [cmp_eqB (bare_copy a) (bare_copy b)]
    split
    · exact bare_copy a
    · exact bare_copy b
theorem ans_member : ∃ x y o, AnsN w_member [a, b] x y o := by
  have na := ya.nod
  have nb := yb.nod
  have hp := btwo_member 9223372036854775808 6188 (by decide) (by decide) (copyT a) (copyT b) yb.copy.few (by rw [nod_copy]; omega)
  have hq := fun n d hn => rmore_member n d a b [] .loose rfl (by omega) (by omega) yb.few hn
  rcases items_eqB (bare_copy b) with ⟨h1, h2⟩ | ⟨us, us', h1, h2, hb⟩
  · rw [mem_none _ _ h1] at hp
    simp only [mem_none a b h2] at hq
    exact ⟨_, _, _, two2 _ _ _ _ _ _ hp hq (.inr rfl) (.inr rfl)⟩
  · have he := mem_eqB hb (bare_copy a)
    cases hm : memX a us' with
    | true =>
      rw [mem_yes _ _ us h1 (by rw [he]; exact hm)] at hp
      simp only [mem_yes a b us' h2 hm] at hq
      exact ⟨_, _, _, two2 _ _ _ _ _ _ hp hq (.inl (okY_of _ (okX_leaf 2 false .n [] _ 0 (by simp)).1 (by decide))) (.inl rfl)⟩
    | false =>
      rw [mem_not _ _ us h1 (by rw [he]; exact hm)] at hp
      simp only [mem_not a b us' h2 hm] at hq
      exact ⟨_, _, _, two2 _ _ _ _ _ _ hp hq (.inl (okY_of _ (okX_leaf 2 false .n [] _ 0 (by simp)).1 (by decide))) (.inl rfl)⟩
theorem ans_setelement (c : T) (yc : FewY c) : ∃ x y o, AnsN w_setelement [a, b, c] x y o := by
  have na := ya.nod
  have nb := yb.nod
  have nc := yc.nod
  have hk := yb.kids
  have hpl : PlaceP (copyT a) (copyT b) ↔ PlaceP a b := by
    unfold PlaceP
    rw [kind_copy, kind_copy, zOf_copy, kids_copy, copyK_len]
  by_cases hq : PlaceP a b
  · have hne := place_ne a b hq
    have hp := fun n d => banswer3_ok n d w_setelement (copyT a) (copyT b) (copyT c) .loose ya.copy.lim (hpl.2 hq) (by
      obtain ⟨k, b1, lg, l, x, m, kg, ks⟩ := b
      have hne' : copyK ks ≠ [] := by
        intro e
        have := congrArg List.length e
        rw [copyK_len] at this
        exact hne (List.length_eq_zero_iff.1 this)
      refine ⟨k, b1, .l, l, x, m, ?_⟩
      simp only [copyT, kgOf, if_neg hne', kidsT]) (by rw [kids_copy, copyK_len]; omega)
    have hr := fun n d => rmore3_ok n d a b c .loose (by omega) (by omega) ya.lim hq (by omega)
    rw [zOf_copy, kids_copy] at hp
    refine ⟨_, _, _, ⟨fun n d => hp n d, fun n d _ => hr n d, .inl (okY_of _ ?_ ?_), .inl (bare_tup .l .l (set_eqB (bareK_copy _) _ (bare_copy c)))⟩⟩
    · have h1 := fewK_set (m := 100000) (copyK (kidsT b)) ((zOfT a).toNat - 1) (copyT c) (fewK_copy _ _ hk.2.2) yc.copy.few
      simp only [tupT, fewT, List.length_nil, List.length_set, copyK_len]
      exact ⟨by omega, by omega, h1⟩
    · have h1 := nodK_set (copyK (kidsT b)) ((zOfT a).toNat - 1) (copyT c)
      rw [nodK_copy, nod_copy] at h1
      simp only [tupT, nodT]; omega
  · have hp := fun n d => banswer3_bad n d w_setelement (copyT a) (copyT b) (copyT c) .loose ya.copy.lim (fun h => hq (hpl.1 h))
    have hr := fun n d => rmore3_bad n d a b c .loose (by omega) (by omega) ya.lim hq
    exact ⟨_, _, _, ⟨fun n d => hp n d, fun n d _ => hr n d, .inr rfl, .inr rfl⟩⟩
end
end Go.Ab
