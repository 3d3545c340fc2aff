/- Several texts put together: AbzA25, AbzA12, AbzA13, AbzA14, AbzA15, AbzA10, AbzA26, AbzA11, AbzA27, AbzA8, AbzA9o, AbzA28, AbMn8, AbzX1, AbzX2, AbzA19, AbzX3, AbzX4, AbzB4, AbzB5, AbzT25, AbzB6, AbzD1, AbzD2, AbzD3, AbzJ1, AbzJ2, AbzC1, AbzC2, AbzJ3, AbzJ5, AbzC3, AbzC4, AbzW1, AbzW2. Conditions: as each part says. -/
import Derived.Test.YtpgnjcckmmkmkaaGreatDoorAbBAllZ06
import Derived.Test.YtpgnjcckmmkmkaaGreatDoorAbBAllZ05
import Derived.Test.YtpgnjcckmmkmkaaGreatDoorAbBAllZ04
/- The reference's shifts, and how far. Conditions: limbs in range. -/
namespace Go.Ab
open Go.Proofs
set_option maxRecDepth 100000
set_option linter.unusedSimpArgs false

theorem min_Z (a b : Int) : foldA min2A (.int .i64 a) [.int .i64 b] = some (.int .i64 (if b < a then b else a)) := by
  simp only [foldA, min2A, Option.bind_some]
theorem max_Z (a b : Int) : foldA max2A (.int .i64 a) [.int .i64 b] = some (.int .i64 (if a < b then b else a)) := by
  simp only [foldA, max2A, Option.bind_some]
/-- A number of bits, cut. -/
def clZ (z : Int) : Int := if z < -10001 then -10001 else if 10001 < z then 10001 else z
theorem clZ_eq (z : Int) : (if (10001 : Int) < (if z < -10001 then -10001 else z) then 10001 else (if z < -10001 then -10001 else z)) = clZ z := by
  unfold clZ
  (repeat' split) <;> omega
set_option maxHeartbeats 4000000 in
theorem far_eq (n d : Nat) (hn : 100000 ≤ n) (g : Gk) (z : Int) (hlt : z.natAbs < B ^ 12) : evalFn Tryz.prog cfg0 n (d+4) 86 [.tree (canA g z)] = some (.tree (.int .i64 (clZ z)), [[]]) := by
  rw [evalFn_go _ Tryz.func86 (by unfold Tryz.f86; rfl) (by unfold Tryz.f86; decide) (Nat.le_of_ble_eq_true (by unfold Tryz.f86; rfl)) (by kernel_rfl)]
  have c1 := fun D s => cRint n d hn (isN_can g z hlt) D s
  unfold intZ at c1
  by_cases hi : isI64 z = true
  · rw [if_pos hi] at c1
    have m1 := max_Z z (-10001)
    have m2 := min_Z (if z < -10001 then -10001 else z) 10001
    rw [clZ_eq] at m2
    simp only [simB, zbo, Nat.reduceBEq, own0, ↓reduceIte, Nat.reduceEqDiff, Nat.reduceAdd, env0, List.getElem?_cons_zero, List.getElem?_cons_succ, zdv, zdw, zdx, zdy, zdz, zea, zeb, zec, ia22, ld31, zed, zee, zef, zeg, zeh, zei, zej, zek, zel, zem, zen, zeo, zep, zeq, zer, fa_0, fa_1, zes, bd_0, bd_2, zet, fd_1, zeu, Nat.zero_add, st0_1, c1, m1, m2]
    exact finish_i _ _ _ _ _ _ _ (by simp only [zfp, ↓reduceIte]) rfl
  · rw [if_neg hi] at c1
    have hz : z < -9223372036854775808 ∨ 9223372036854775808 ≤ z := by
      unfold isI64 at hi
      rw [Bool.and_eq_true, decide_eq_true_eq, decide_eq_true_eq] at hi
      omega
    by_cases h0 : z < 0
    · simp only [canA, encA, h0, decide_true] at c1
      have hc : clZ z = -10001 := by unfold clZ; rw [if_pos (by omega)]
      rw [hc]
      simp only [simB, zbo, Nat.reduceBEq, own0, ↓reduceIte, Nat.reduceEqDiff, Nat.reduceAdd, env0, List.getElem?_cons_zero, List.getElem?_cons_succ, zdv, zdw, zdx, zdy, zdz, zea, zeb, zec, ia22, ld31, zed, zee, zef, zeg, zeh, zei, zej, zek, zel, zem, zen, zeo, zep, zeq, zer, fa_0, fa_1, zes, bd_0, bd_2, zet, fd_1, zeu, Nat.zero_add, st0_1, c1, h0]
      exact finish_i _ _ _ _ _ _ _ (by simp only [zfp, ↓reduceIte]) rfl
    · simp only [canA, encA, h0, decide_false] at c1
      have hc : clZ z = 10001 := by unfold clZ; rw [if_neg (by omega), if_pos (by omega)]
      rw [hc]
      simp only [simB, zbo, Nat.reduceBEq, own0, ↓reduceIte, Nat.reduceEqDiff, Nat.reduceAdd, env0, List.getElem?_cons_zero, List.getElem?_cons_succ, zdv, zdw, zdx, zdy, zdz, zea, zeb, zec, ia22, ld31, zed, zee, zef, zeg, zeh, zei, zej, zek, zel, zem, zen, zeo, zep, zeq, zer, fa_0, fa_1, zes, bd_0, bd_2, zet, fd_1, zeu, Nat.zero_add, st0_1, c1, h0]
      exact finish_i _ _ _ _ _ _ _ (by simp only [zfp, ↓reduceIte]) rfl
theorem madeF_not {z : Int} (h : ¬ z.natAbs < B ^ 12) : madeF z = .tup [encA false .n [], .bool false] := by
  rw [madeF, mkZ_not h, gm, if_neg h]
  simp [canA, digs_0]
theorem down_cut (z : Int) (N : Nat) (h : z.natAbs < B ^ 12) (hN : 10000 < N) : shZ z (-(N : Int)) = shZ z (-((10000 : Nat) : Int)) := by
  have h1 : B ^ 12 ≤ 2 ^ N := B_le 12 N (by omega)
  obtain ⟨m, hm⟩ : ∃ m, m = 10000 := ⟨_, rfl⟩
  have h2 : B ^ 12 ≤ 2 ^ m := B_le 12 m (by omega)
  rw [← hm]
  by_cases hz : z < 0
  · rw [← down_neg z N hz, ← down_neg z m hz, Nat.div_eq_of_lt (by omega), Nat.div_eq_of_lt (by omega)]
  · rw [← down_pos z N hz, ← down_pos z m hz, Nat.div_eq_of_lt (by omega), Nat.div_eq_of_lt (by omega)]
-- Down.
set_option maxHeartbeats 8000000 in
theorem rdown_eq (n d : Nat) (hn : 100000 ≤ n) (g : Gk) (z : Int) (hlt : z.natAbs < B ^ 12) (N c : Nat) (hc : c = min N 10001) : evalFn Tryz.prog cfg0 n (d+5) 87 [.tree (canA g z), .tree (.int .i64 (c : Int)), .tree (.bool false)] = some (.tree (madeF (shZ z (-(N : Int)))), [[], [], []]) := by
  obtain ⟨m, hm, hm'⟩ : ∃ m : Nat, shZ z (-(N : Int)) = shZ z (-(m : Int)) ∧ ((c ≤ 10000 ∧ m = c) ∨ (10000 < c ∧ m = 10000)) := by
    by_cases h : N ≤ 10000
    · exact ⟨N, rfl, .inl (by omega)⟩
    · exact ⟨10000, down_cut z N hlt (by omega), .inr (by omega)⟩
  rw [hm]
  clear hm
  rw [evalFn_go _ Tryz.func87 (by unfold Tryz.f87; rfl) (by unfold Tryz.f87; decide) (Nat.le_of_ble_eq_true (by unfold Tryz.f87; rfl)) (by kernel_rfl)]
  have one1 : Num (.sl [.int .u32 1] 1 .tight) 1 := ⟨[1], ⟨_, rfl⟩, limbs_one (by decide), by decide, rfl⟩
  have hle := Nat.div_le_self (lessN z) (2 ^ m)
  have hle' := Nat.div_le_self z.natAbs (2 ^ m)
  have hll := less_le z
  have b1 := fun D s => callA_trees (cfg := cfg0) (d := D) (s := s) (f := 114) (vs := [canA g z]) rfl (rless_eq n d hn g z hlt)
  have nl : Num (encL (lessG g z) (digs (lessN z))) (lessN z) := by
    have := num_L (lessG g z) (digs (lessN z)) (limbs_digs _) (by have := digs_len (lessN z) 12 (by omega); omega)
    rw [val_digs] at this; exact this
  have c1 := fun D s => rcShr n (d + 2) hn D s nl (m : Int) (by omega)
  have c2 := fun D s => rcShr n (d + 2) hn D s (num_can g z hlt) (m : Int) (by omega)
  rw [Int.toNat_natCast] at c1 c2
  have c3 := fun D s => rcAdd n (d + 2) hn D s (num_F (lessN z / 2 ^ m) 12 (by decide) (by omega)) one1
  have c4 := fun D s => cRmade n (d + 2) hn D s (num_F (lessN z / 2 ^ m + 1) 13 (by decide) (by
    have h1 : B ^ 12 < B ^ 13 := Nat.pow_lt_pow_right (by decide) (by decide)
    omega)) true
  have c5 := fun D s => cRmade n (d + 2) hn D s (num_F (z.natAbs / 2 ^ m) 12 (by decide) (by omega)) false
  by_cases hz : z < 0
  · have e : lessN z = z.natAbs - 1 := by unfold lessN; rw [if_pos hz]
    rw [e, down_neg z m hz] at c4
    rw [e] at c1 c3
    simp only [canA, encA, e, hz, decide_true] at b1
    rcases hm' with ⟨h1, rfl⟩ | ⟨h1, h2⟩
    · have q1 : ¬ (m : Int) > 10000 := by omega
      simp only [simB, zbo, Nat.reduceBEq, own0, ↓reduceIte, Nat.reduceEqDiff, Nat.reduceAdd, env0, List.getElem?_cons_zero, List.getElem?_cons_succ, zdv, zdw, zdx, zdy, zdz, zea, zeb, zec, ia22, ld31, zed, zee, zef, zeg, zeh, zei, zej, zek, zel, zem, zen, zeo, zep, zeq, zer, fa_0, fa_1, zes, bd_0, bd_2, zet, fd_1, zeu, Nat.zero_add, st0_3', q1, hz, b1, c1, opA_one, one22_int, c3, c4, madeF_eq, ext_0, ext_1, zeq]
      exact finish_ct _ _ 6 6 1 _ _ _ _ _ _ _ (by simp only [zfp, ↓reduceIte, Nat.reduceEqDiff]) (by simp only [zfp, ↓reduceIte, Nat.reduceEqDiff]) (by simp only [zfp, ↓reduceIte, Nat.reduceEqDiff]) rfl
    · have q1 : (c : Int) > 10000 := by omega
      have q2 : (m : Int) = 10000 := by omega
      rw [q2] at c1
      simp only [simB, zbo, Nat.reduceBEq, own0, ↓reduceIte, Nat.reduceEqDiff, Nat.reduceAdd, env0, List.getElem?_cons_zero, List.getElem?_cons_succ, zdv, zdw, zdx, zdy, zdz, zea, zeb, zec, ia22, ld31, zed, zee, zef, zeg, zeh, zei, zej, zek, zel, zem, zen, zeo, zep, zeq, zer, fa_0, fa_1, zes, bd_0, bd_2, zet, fd_1, zeu, Nat.zero_add, st0_3', q1, hz, b1, c1, opA_one, one22_int, c3, c4, madeF_eq, ext_0, ext_1, zeq]
      exact finish_ct _ _ 6 6 1 _ _ _ _ _ _ _ (by simp only [zfp, ↓reduceIte, Nat.reduceEqDiff]) (by simp only [zfp, ↓reduceIte, Nat.reduceEqDiff]) (by simp only [zfp, ↓reduceIte, Nat.reduceEqDiff]) rfl
  · rw [down_pos z m hz] at c5
    rcases hm' with ⟨h1, rfl⟩ | ⟨h1, h2⟩
    · have q1 : ¬ (m : Int) > 10000 := by omega
      simp only [simB, zbo, Nat.reduceBEq, own0, ↓reduceIte, Nat.reduceEqDiff, Nat.reduceAdd, env0, List.getElem?_cons_zero, List.getElem?_cons_succ, zdv, zdw, zdx, zdy, zdz, zea, zeb, zec, ia22, ld31, zed, zee, zef, zeg, zeh, zei, zej, zek, zel, zem, zen, zeo, zep, zeq, zer, fa_0, fa_1, zes, bd_0, bd_2, zet, fd_1, zeu, Nat.zero_add, st0_3', q1, hz, c2, c5, madeF_eq, ext_0, ext_1, zeq]
      exact finish_ct _ _ 6 6 1 _ _ _ _ _ _ _ (by simp only [zfp, ↓reduceIte, Nat.reduceEqDiff]) (by simp only [zfp, ↓reduceIte, Nat.reduceEqDiff]) (by simp only [zfp, ↓reduceIte, Nat.reduceEqDiff]) rfl
    · have q1 : (c : Int) > 10000 := by omega
      have q2 : (m : Int) = 10000 := by omega
      rw [q2] at c2
      simp only [simB, zbo, Nat.reduceBEq, own0, ↓reduceIte, Nat.reduceEqDiff, Nat.reduceAdd, env0, List.getElem?_cons_zero, List.getElem?_cons_succ, zdv, zdw, zdx, zdy, zdz, zea, zeb, zec, ia22, ld31, zed, zee, zef, zeg, zeh, zei, zej, zek, zel, zem, zen, zeo, zep, zeq, zer, fa_0, fa_1, zes, bd_0, bd_2, zet, fd_1, zeu, Nat.zero_add, st0_3', q1, hz, c2, c5, madeF_eq, ext_0, ext_1, zeq]
      exact finish_ct _ _ 6 6 1 _ _ _ _ _ _ _ (by simp only [zfp, ↓reduceIte, Nat.reduceEqDiff]) (by simp only [zfp, ↓reduceIte, Nat.reduceEqDiff]) (by simp only [zfp, ↓reduceIte, Nat.reduceEqDiff]) rfl
-- Up.
set_option maxHeartbeats 8000000 in
theorem rup_eq (n d : Nat) (hn : 100000 ≤ n) (g : Gk) (z : Int) (hlt : z.natAbs < B ^ 12) (N c : Nat) (hc : c = min N 10001) : evalFn Tryz.prog cfg0 n (d+5) 87 [.tree (canA g z), .tree (.int .i64 (c : Int)), .tree (.bool true)] = some (.tree (madeF (shZ z (N : Int))), [[], [], []]) := by
  rw [evalFn_go _ Tryz.func87 (by unfold Tryz.f87; rfl) (by unfold Tryz.f87; decide) (Nat.le_of_ble_eq_true (by unfold Tryz.f87; rfl)) (by kernel_rfl)]
  have p0 : (((digs z.natAbs).length : Nat) : Int) > 0 ↔ z ≠ 0 := by
    have := digs_len0 z.natAbs
    omega
  by_cases hfar : 10000 < c ∧ z ≠ 0
  · have q1 : (c : Int) > 10000 := by omega
    have q2 := p0.mpr hfar.2
    rw [madeF_not (far_up0 z N hfar.2 (by omega))]
    simp only [simB, zbo, Nat.reduceBEq, own0, ↓reduceIte, Nat.reduceEqDiff, Nat.reduceAdd, env0, List.getElem?_cons_zero, List.getElem?_cons_succ, zdv, zdw, zdx, zdy, zdz, zea, zeb, zec, ia22, ld31, zed, zee, zef, zeg, zeh, zei, zej, zek, zel, zem, zen, zeo, zep, zeq, zer, fa_0, fa_1, zes, bd_0, bd_2, zet, fd_1, zeu, Nat.zero_add, st0_3', q1, q2]
    exact finish_ct _ _ 6 6 1 _ _ _ _ _ _ _ (by simp only [zfp, ↓reduceIte, Nat.reduceEqDiff]) (by simp only [zfp, ↓reduceIte, Nat.reduceEqDiff]) (by simp only [zfp, ↓reduceIte, Nat.reduceEqDiff]) rfl
  · obtain ⟨M, hM, hMe, hM4⟩ : ∃ M : Nat, (if (10000 : Int) < (c : Int) then 10000 else (c : Int)) = (M : Int) ∧ shZ z (N : Int) = shZ z (M : Int) ∧ M ≤ 10000 := by
      by_cases h : 10000 < c
      · have h0 : z = 0 := Classical.byContradiction fun h0 => hfar ⟨h, h0⟩
        refine ⟨10000, by rw [if_pos (by omega)]; rfl, by rw [h0, shZ_0, shZ_0], by omega⟩
      · exact ⟨c, by rw [if_neg (by omega)], by rw [show N = c by omega], by omega⟩
    have mn := min_Z (c : Int) 10000
    rw [hM] at mn
    rw [hMe]
    clear hMe hM
    have hq : ¬ (c : Int) > 10000 ∨ ((c : Int) > 10000 ∧ ¬ ((digs z.natAbs).length : Int) > 0) := by
      by_cases h : (c : Int) > 10000
      · exact .inr ⟨h, fun h' => hfar ⟨by omega, p0.mp h'⟩⟩
      · exact .inl h
    rcases hq with q1 | ⟨q1, q2⟩
    · simp only [simB, zbo, Nat.reduceBEq, own0, ↓reduceIte, Nat.reduceEqDiff, Nat.reduceAdd, env0, List.getElem?_cons_zero, List.getElem?_cons_succ, zdv, zdw, zdx, zdy, zdz, zea, zeb, zec, ia22, ld31, zed, zee, zef, zeg, zeh, zei, zej, zek, zel, zem, zen, zeo, zep, zeq, zer, fa_0, fa_1, zes, bd_0, bd_2, zet, fd_1, zeu, Nat.zero_add, st0_3', q1, mn, den_loop]
      refine loop_ends (X := Nat × Int × Gk) (fun x env s => env 3 = .ptr 3 1 0 ∧ env 6 = .ptr 6 1 0 ∧ env 9 = .int .i64 x.2.1 ∧ env 8 = encL x.2.2 (digs (z.natAbs * 2 ^ x.1)) ∧ s 3 = ⟨1, .buf [.bool (decide (z < 0)), encL g (digs z.natAbs)]⟩ ∧ s 6 = ⟨1, .buf [.bool false, .sl [] 0 .nil]⟩ ∧ x.1 ≤ M ∧ ((0 < x.2.1 ∧ x.2.1 = (M : Int) - (x.1 : Int)) ∨ (x.2.1 ≤ 0 ∧ -10000 ≤ x.2.1 ∧ x.1 = M)) ∧ z.natAbs * 2 ^ x.1 < B ^ 12) (fun x => M - x.1) (fun _ => (.tree (madeF (shZ z (M : Int))), [[], [], []])) ?_ n (0, (M : Int), g) _ _ (by simp only; omega) ⟨by simp only [zfp, ↓reduceIte, Nat.reduceEqDiff], by simp only [zfp, ↓reduceIte, Nat.reduceEqDiff], by simp only [zfp, ↓reduceIte, Nat.reduceEqDiff], by rw [Nat.pow_zero, Nat.mul_one]; simp only [zfp, ↓reduceIte, Nat.reduceEqDiff], by simp only [zfp, ↓reduceIte, Nat.reduceEqDiff], by simp only [zfp, ↓reduceIte, Nat.reduceEqDiff], Nat.zero_le _, by simp only; omega, by rw [Nat.pow_zero, Nat.mul_one]; exact hlt⟩
      intro k ⟨j, i, gg⟩ hxk ih env s ⟨e3, e6, e9, e8, j3, j6, hj, hi, hv⟩
      simp only at e9 e8 hj hi hv hxk
      by_cases hp : i > 0
      · have hi' : i = (M : Int) - (j : Int) := by omega
        obtain ⟨cc, hcc, hc1, hc2, hc3⟩ : ∃ cc : Nat, (if (32 : Int) < i then 32 else i) = (cc : Int) ∧ 1 ≤ cc ∧ cc ≤ 32 ∧ j + cc ≤ M ∧ ((0 < i - 32 ∧ i - 32 = (M : Int) - ((j + cc : Nat) : Int)) ∨ (i - 32 ≤ 0 ∧ -10000 ≤ i - 32 ∧ j + cc = M)) := by
          by_cases h : (32 : Int) < i
          · exact ⟨32, by rw [if_pos h]; rfl, by omega, by omega, by omega, by omega⟩
          · exact ⟨i.toNat, by rw [if_neg h]; omega, by omega, by omega, by omega, by omega⟩
        have m1 := min_Z i 32
        rw [hcc] at m1
        have nv := num_L gg (digs (z.natAbs * 2 ^ j)) (limbs_digs _) (by have := digs_len _ 12 hv; omega)
        rw [val_digs] at nv
        have c1 := fun D s => rcShl n (d + 2) hn D s nv (cc : Int)
        have hsh : shn (cc : Int) = cc := by unfold shn; rw [if_neg (by omega)]; exact Int.toNat_natCast cc
        rw [hsh, Nat.mul_assoc, ← Nat.pow_add] at c1
        have a1 := i_sub Tryz.prog 3 i 32 (by omega) (by omega)
        have hln := digs_len_le (z.natAbs * 2 ^ (j + cc)) 12
        by_cases hf : z.natAbs * 2 ^ (j + cc) < B ^ 12
        · have q3 : ¬ ((digs (z.natAbs * 2 ^ (j + cc))).length : Int) > 12 := by have := hln.mpr hf; omega
          simp only [simB, zbo, Nat.reduceBEq, own0, ↓reduceIte, Nat.reduceEqDiff, Nat.reduceAdd, env0, List.getElem?_cons_zero, List.getElem?_cons_succ, zdv, zdw, zdx, zdy, zdz, zea, zeb, zec, ia22, ld31, zed, zee, zef, zeg, zeh, zei, zej, zek, zel, zem, zen, zeo, zep, zeq, zer, fa_0, fa_1, zes, bd_0, bd_2, zet, fd_1, zeu, Nat.zero_add, e3, e6, e9, e8, j3, j6, hp, m1, c1, lenF, q3, a1]
          refine ih (j + cc, i - 32, .l) _ _ (by simp only; omega) rfl ⟨?_, ?_, ?_, ?_, j3, j6, hc3.1, hc3.2, hf⟩
          · simp only [zfp, ↓reduceIte, Nat.reduceEqDiff, e3]
          · simp only [zfp, ↓reduceIte, Nat.reduceEqDiff, e6]
          · simp only [zfp, ↓reduceIte, Nat.reduceEqDiff]
          · simp only [zfp, ↓reduceIte, Nat.reduceEqDiff]; rfl
        · have q3 : ((digs (z.natAbs * 2 ^ (j + cc))).length : Int) > 12 := by
            have : ¬ (digs (z.natAbs * 2 ^ (j + cc))).length ≤ 12 := fun h => hf (hln.mp h)
            omega
          have hbig : ¬ (shZ z (M : Int)).natAbs < B ^ 12 := by
            rw [← up_sgn, sgn_abs]
            have h1 : 2 ^ (j + cc) ≤ 2 ^ M := Nat.pow_le_pow_right (by decide) hc3.1
            have h2 := Nat.mul_le_mul_left z.natAbs h1
            omega
          rw [madeF_not hbig]
          simp only [simB, zbo, Nat.reduceBEq, own0, ↓reduceIte, Nat.reduceEqDiff, Nat.reduceAdd, env0, List.getElem?_cons_zero, List.getElem?_cons_succ, zdv, zdw, zdx, zdy, zdz, zea, zeb, zec, ia22, ld31, zed, zee, zef, zeg, zeh, zei, zej, zek, zel, zem, zen, zeo, zep, zeq, zer, fa_0, fa_1, zes, bd_0, bd_2, zet, fd_1, zeu, Nat.zero_add, e3, e6, e9, e8, j3, j6, hp, m1, c1, lenF, q3, a1]
          exact finish_ct _ _ 6 6 1 _ _ _ _ _ _ _ (by simp only [zfp, ↓reduceIte, Nat.reduceEqDiff, e6]) (by simp only [zfp, ↓reduceIte, Nat.reduceEqDiff]) (by simp only [zfp, ↓reduceIte, Nat.reduceEqDiff]) rfl
      · obtain rfl : j = M := by omega
        have nv := num_L gg (digs (z.natAbs * 2 ^ j)) (limbs_digs _) (by have := digs_len _ 12 hv; omega)
        rw [val_digs] at nv
        have c2 := fun D s => cRmade n (d + 2) hn D s nv (decide (z < 0))
        rw [up_sgn] at c2
        simp only [simB, zbo, Nat.reduceBEq, own0, ↓reduceIte, Nat.reduceEqDiff, Nat.reduceAdd, env0, List.getElem?_cons_zero, List.getElem?_cons_succ, zdv, zdw, zdx, zdy, zdz, zea, zeb, zec, ia22, ld31, zed, zee, zef, zeg, zeh, zei, zej, zek, zel, zem, zen, zeo, zep, zeq, zer, fa_0, fa_1, zes, bd_0, bd_2, zet, fd_1, zeu, Nat.zero_add, e3, e6, e9, e8, j3, j6, hp, c2, madeF_eq, ext_0, ext_1, zeq]
        exact finish_ct _ _ 6 6 1 _ _ _ _ _ _ _ (by simp only [zfp, ↓reduceIte, Nat.reduceEqDiff, e6]) (by simp only [zfp, ↓reduceIte, Nat.reduceEqDiff]) (by simp only [zfp, ↓reduceIte, Nat.reduceEqDiff]) rfl
    · simp only [simB, zbo, Nat.reduceBEq, own0, ↓reduceIte, Nat.reduceEqDiff, Nat.reduceAdd, env0, List.getElem?_cons_zero, List.getElem?_cons_succ, zdv, zdw, zdx, zdy, zdz, zea, zeb, zec, ia22, ld31, zed, zee, zef, zeg, zeh, zei, zej, zek, zel, zem, zen, zeo, zep, zeq, zer, fa_0, fa_1, zes, bd_0, bd_2, zet, fd_1, zeu, Nat.zero_add, st0_3', q1, q2, mn, den_loop]
      refine loop_ends (X := Nat × Int × Gk) (fun x env s => env 3 = .ptr 3 1 0 ∧ env 6 = .ptr 6 1 0 ∧ env 9 = .int .i64 x.2.1 ∧ env 8 = encL x.2.2 (digs (z.natAbs * 2 ^ x.1)) ∧ s 3 = ⟨1, .buf [.bool (decide (z < 0)), encL g (digs z.natAbs)]⟩ ∧ s 6 = ⟨1, .buf [.bool false, .sl [] 0 .nil]⟩ ∧ x.1 ≤ M ∧ ((0 < x.2.1 ∧ x.2.1 = (M : Int) - (x.1 : Int)) ∨ (x.2.1 ≤ 0 ∧ -10000 ≤ x.2.1 ∧ x.1 = M)) ∧ z.natAbs * 2 ^ x.1 < B ^ 12) (fun x => M - x.1) (fun _ => (.tree (madeF (shZ z (M : Int))), [[], [], []])) ?_ n (0, (M : Int), g) _ _ (by simp only; omega) ⟨by simp only [zfp, ↓reduceIte, Nat.reduceEqDiff], by simp only [zfp, ↓reduceIte, Nat.reduceEqDiff], by simp only [zfp, ↓reduceIte, Nat.reduceEqDiff], by rw [Nat.pow_zero, Nat.mul_one]; simp only [zfp, ↓reduceIte, Nat.reduceEqDiff], by simp only [zfp, ↓reduceIte, Nat.reduceEqDiff], by simp only [zfp, ↓reduceIte, Nat.reduceEqDiff], Nat.zero_le _, by simp only; omega, by rw [Nat.pow_zero, Nat.mul_one]; exact hlt⟩
      intro k ⟨j, i, gg⟩ hxk ih env s ⟨e3, e6, e9, e8, j3, j6, hj, hi, hv⟩
      simp only at e9 e8 hj hi hv hxk
      by_cases hp : i > 0
      · have hi' : i = (M : Int) - (j : Int) := by omega
        obtain ⟨cc, hcc, hc1, hc2, hc3⟩ : ∃ cc : Nat, (if (32 : Int) < i then 32 else i) = (cc : Int) ∧ 1 ≤ cc ∧ cc ≤ 32 ∧ j + cc ≤ M ∧ ((0 < i - 32 ∧ i - 32 = (M : Int) - ((j + cc : Nat) : Int)) ∨ (i - 32 ≤ 0 ∧ -10000 ≤ i - 32 ∧ j + cc = M)) := by
          by_cases h : (32 : Int) < i
          · exact ⟨32, by rw [if_pos h]; rfl, by omega, by omega, by omega, by omega⟩
          · exact ⟨i.toNat, by rw [if_neg h]; omega, by omega, by omega, by omega, by omega⟩
        have m1 := min_Z i 32
        rw [hcc] at m1
        have nv := num_L gg (digs (z.natAbs * 2 ^ j)) (limbs_digs _) (by have := digs_len _ 12 hv; omega)
        rw [val_digs] at nv
        have c1 := fun D s => rcShl n (d + 2) hn D s nv (cc : Int)
        have hsh : shn (cc : Int) = cc := by unfold shn; rw [if_neg (by omega)]; exact Int.toNat_natCast cc
        rw [hsh, Nat.mul_assoc, ← Nat.pow_add] at c1
        have a1 := i_sub Tryz.prog 3 i 32 (by omega) (by omega)
        have hln := digs_len_le (z.natAbs * 2 ^ (j + cc)) 12
        by_cases hf : z.natAbs * 2 ^ (j + cc) < B ^ 12
        · have q3 : ¬ ((digs (z.natAbs * 2 ^ (j + cc))).length : Int) > 12 := by have := hln.mpr hf; omega
          simp only [simB, zbo, Nat.reduceBEq, own0, ↓reduceIte, Nat.reduceEqDiff, Nat.reduceAdd, env0, List.getElem?_cons_zero, List.getElem?_cons_succ, zdv, zdw, zdx, zdy, zdz, zea, zeb, zec, ia22, ld31, zed, zee, zef, zeg, zeh, zei, zej, zek, zel, zem, zen, zeo, zep, zeq, zer, fa_0, fa_1, zes, bd_0, bd_2, zet, fd_1, zeu, Nat.zero_add, e3, e6, e9, e8, j3, j6, hp, m1, c1, lenF, q3, a1]
          refine ih (j + cc, i - 32, .l) _ _ (by simp only; omega) rfl ⟨?_, ?_, ?_, ?_, j3, j6, hc3.1, hc3.2, hf⟩
          · simp only [zfp, ↓reduceIte, Nat.reduceEqDiff, e3]
          · simp only [zfp, ↓reduceIte, Nat.reduceEqDiff, e6]
          · simp only [zfp, ↓reduceIte, Nat.reduceEqDiff]
          · simp only [zfp, ↓reduceIte, Nat.reduceEqDiff]; rfl
        · have q3 : ((digs (z.natAbs * 2 ^ (j + cc))).length : Int) > 12 := by
            have : ¬ (digs (z.natAbs * 2 ^ (j + cc))).length ≤ 12 := fun h => hf (hln.mp h)
            omega
          have hbig : ¬ (shZ z (M : Int)).natAbs < B ^ 12 := by
            rw [← up_sgn, sgn_abs]
            have h1 : 2 ^ (j + cc) ≤ 2 ^ M := Nat.pow_le_pow_right (by decide) hc3.1
            have h2 := Nat.mul_le_mul_left z.natAbs h1
            omega
          rw [madeF_not hbig]
          simp only [simB, zbo, Nat.reduceBEq, own0, ↓reduceIte, Nat.reduceEqDiff, Nat.reduceAdd, env0, List.getElem?_cons_zero, List.getElem?_cons_succ, zdv, zdw, zdx, zdy, zdz, zea, zeb, zec, ia22, ld31, zed, zee, zef, zeg, zeh, zei, zej, zek, zel, zem, zen, zeo, zep, zeq, zer, fa_0, fa_1, zes, bd_0, bd_2, zet, fd_1, zeu, Nat.zero_add, e3, e6, e9, e8, j3, j6, hp, m1, c1, lenF, q3, a1]
          exact finish_ct _ _ 6 6 1 _ _ _ _ _ _ _ (by simp only [zfp, ↓reduceIte, Nat.reduceEqDiff, e6]) (by simp only [zfp, ↓reduceIte, Nat.reduceEqDiff]) (by simp only [zfp, ↓reduceIte, Nat.reduceEqDiff]) rfl
      · obtain rfl : j = M := by omega
        have nv := num_L gg (digs (z.natAbs * 2 ^ j)) (limbs_digs _) (by have := digs_len _ 12 hv; omega)
        rw [val_digs] at nv
        have c2 := fun D s => cRmade n (d + 2) hn D s nv (decide (z < 0))
        rw [up_sgn] at c2
        simp only [simB, zbo, Nat.reduceBEq, own0, ↓reduceIte, Nat.reduceEqDiff, Nat.reduceAdd, env0, List.getElem?_cons_zero, List.getElem?_cons_succ, zdv, zdw, zdx, zdy, zdz, zea, zeb, zec, ia22, ld31, zed, zee, zef, zeg, zeh, zei, zej, zek, zel, zem, zen, zeo, zep, zeq, zer, fa_0, fa_1, zes, bd_0, bd_2, zet, fd_1, zeu, Nat.zero_add, e3, e6, e9, e8, j3, j6, hp, c2, madeF_eq, ext_0, ext_1, zeq]
        exact finish_ct _ _ 6 6 1 _ _ _ _ _ _ _ (by simp only [zfp, ↓reduceIte, Nat.reduceEqDiff, e6]) (by simp only [zfp, ↓reduceIte, Nat.reduceEqDiff]) (by simp only [zfp, ↓reduceIte, Nat.reduceEqDiff]) rfl
end Go.Ab

/- And, or, exclusive or of limbs; a number's bits. Conditions: numbers that are shown. -/
namespace Go.Ab
open Go.Proofs
set_option maxRecDepth 100000
set_option linter.unusedSimpArgs false

theorem s_and (P : Program) (t : TypeId) (a b : Nat) (h : a < 4294967296) (h' : b < 4294967296) : binA P .and t (.int .u32 (a : Int)) (.int .u32 (b : Int)) = some (.int .u32 (((a &&& b) : Nat) : Int)) := by
  have h1 : (BitVec.ofInt 32 (a : Int) &&& BitVec.ofInt 32 (b : Int)).toNat = a &&& b := by
    rw [BitVec.toNat_and, BitVec.ofInt_natCast, BitVec.ofInt_natCast, BitVec.toNat_ofNat, BitVec.toNat_ofNat, Nat.mod_eq_of_lt h, Nat.mod_eq_of_lt h']
  have h2 : a &&& b ≤ a := Nat.and_le_left
  show some (AV.int .u32 (IntKind.u32.wrap ((BitVec.ofInt 32 (a : Int) &&& BitVec.ofInt 32 (b : Int)).toNat : Int))) = _
  rw [h1]
  simp only [IntKind.wrap, IntKind.bits, IntKind.signed]
  congr 2
  generalize a &&& b = c at *
  simp; omega
theorem s_xor (P : Program) (t : TypeId) (a b : Nat) (h : a < 4294967296) (h' : b < 4294967296) : binA P .xor t (.int .u32 (a : Int)) (.int .u32 (b : Int)) = some (.int .u32 (((a ^^^ b) : Nat) : Int)) := by
  have h1 : (BitVec.ofInt 32 (a : Int) ^^^ BitVec.ofInt 32 (b : Int)).toNat = a ^^^ b := by
    rw [BitVec.toNat_xor, BitVec.ofInt_natCast, BitVec.ofInt_natCast, BitVec.toNat_ofNat, BitVec.toNat_ofNat, Nat.mod_eq_of_lt h, Nat.mod_eq_of_lt h']
  have h2 : (a ^^^ b) < 2 ^ 32 := Nat.xor_lt_two_pow h h'
  show some (AV.int .u32 (IntKind.u32.wrap ((BitVec.ofInt 32 (a : Int) ^^^ BitVec.ofInt 32 (b : Int)).toNat : Int))) = _
  rw [h1]
  simp only [IntKind.wrap, IntKind.bits, IntKind.signed]
  congr 2
  generalize a ^^^ b = c at *
  simp; omega
theorem s_not (a : Nat) (h : a < 4294967296) : unA .xor (.int .u32 (a : Int)) = some (.int .u32 ((4294967295 - a : Nat) : Int)) := by
  have h1 : (BitVec.ofInt 32 4294967295 ^^^ BitVec.ofInt 32 (a : Int)).toNat = 4294967295 - a := by
    have e : BitVec.ofInt 32 4294967295 = BitVec.allOnes 32 := by decide
    rw [e, BitVec.allOnes_xor, BitVec.toNat_not, BitVec.ofInt_natCast, BitVec.toNat_ofNat, Nat.mod_eq_of_lt h]
  show some (AV.int .u32 (IntKind.u32.wrap ((BitVec.ofInt 32 4294967295 ^^^ BitVec.ofInt 32 (a : Int)).toNat : Int))) = _
  rw [h1]
  simp only [IntKind.wrap, IntKind.bits, IntKind.signed]
  congr 2
  simp; omega
theorem finish_u (k : Bool) (xs : List Arg) (t : Nat) (env : Env) (s : St) (z : Int) (os : List (List AV)) (hv : env t = .int .u32 z) (ho : outsA s 0 xs = some os) : finishP Tryz.prog k xs #[.tmp t] env s = some (.tree (.int .u32 z), os) :=
  finish_tree _ _ _ _ _ _ (.int .u32 z) _ _ hv rfl ho
theorem word_eq (n d op a b : Nat) (ha : a < 4294967296) (hb : b < 4294967296) : evalFn Tryz.prog cfg0 n (d+1) 107 [.tree (.int .i64 (op : Int)), .tree (.int .u32 (a : Int)), .tree (.int .u32 (b : Int))] = some (.tree (.int .u32 ((wordN op a b : Nat) : Int)), [[], [], []]) := by
  rw [evalFn_go _ Tryz.func107 (by unfold Tryz.f107; rfl) (by unfold Tryz.f107; decide) (Nat.le_of_ble_eq_true (by unfold Tryz.f107; rfl)) (by kernel_rfl)]
  have e1 := s_and Tryz.prog 57 a b ha hb
  have e2 := s_or Tryz.prog 57 a b ha hb
  have e3 := s_xor Tryz.prog 57 a b ha hb
  unfold wordN
  by_cases h6 : op = 6
  · have p : ((op : Int) == 6) = true := by rw [h6]; rfl
    rw [if_pos h6]
    simp only [simB, zbo, Nat.reduceBEq, own0, ↓reduceIte, Nat.reduceEqDiff, Nat.reduceAdd, env0, List.getElem?_cons_zero, List.getElem?_cons_succ, zdv, zdw, zdx, zdy, zdz, zea, zeb, zec, ia22, ld31, zed, zee, p, e1]
    exact finish_u _ _ _ _ _ _ _ (by simp only [zfp, ↓reduceIte]) rfl
  · have p : ((op : Int) == 6) = false := by rw [beq_eq_false_iff_ne]; omega
    rw [if_neg h6]
    by_cases h7 : op = 7
    · have p2 : ((op : Int) == 7) = true := by rw [h7]; rfl
      rw [if_pos h7]
      simp only [simB, zbo, Nat.reduceBEq, own0, ↓reduceIte, Nat.reduceEqDiff, Nat.reduceAdd, env0, List.getElem?_cons_zero, List.getElem?_cons_succ, zdv, zdw, zdx, zdy, zdz, zea, zeb, zec, ia22, ld31, zed, zee, p, p2, e2]
      exact finish_u _ _ _ _ _ _ _ (by simp only [zfp, ↓reduceIte]) rfl
    · have p2 : ((op : Int) == 7) = false := by rw [beq_eq_false_iff_ne]; omega
      rw [if_neg h7]
      simp only [simB, zbo, Nat.reduceBEq, own0, ↓reduceIte, Nat.reduceEqDiff, Nat.reduceAdd, env0, List.getElem?_cons_zero, List.getElem?_cons_succ, zdv, zdw, zdx, zdy, zdz, zea, zeb, zec, ia22, ld31, zed, zee, p, p2, e3]
      exact finish_u _ _ _ _ _ _ _ (by simp only [zfp, ↓reduceIte]) rfl
theorem qWord (n d op a b : Nat) (ha : a < 4294967296) (hb : b < 4294967296) : callQ (evalFn Tryz.prog cfg0 n (d+1)) 107 [.int .i64 (op : Int), .int .u32 (a : Int), .int .u32 (b : Int)] = some (.int .u32 ((wordN op a b : Nat) : Int)) :=
  callQ_trees rfl (word_eq n d op a b ha hb)

/-! ### bits -/
theorem copy_L (s : St) (p t : Nat) (m l : List Nat) (b : Gk) (hs : s p = ⟨t, .buf (encC m)⟩) (len : Nat) (hm : m.length = len) (hl : l.length ≤ len) : copyA Tryz.prog #[25, 25] s (.own p t 0 len 1) (encL b l) =
    some (.int .i64 (l.length : Int), upd s p ⟨t, .buf (encC (l ++ m.drop l.length))⟩) := by
  have e1 : (#[25, 25] : Array TypeId)[0]? = some 25 := rfl
  have e2 : (#[25, 25] : Array TypeId)[1]? = some 25 := rfl
  subst hm
  have hmin : Nat.min l.length m.length = l.length := Nat.min_eq_left hl
  simp only [copyA, e1, e2, Option.map_some, tk22, esz31, Option.bind_some, moreA, encL, encC_len, Nat.mul_one, if_true, hs, hmin]
  rw [if_pos ⟨trivial, trivial, by omega⟩]
  simp only [encC_take, splice_enc, List.take_zero, List.nil_append, Nat.zero_add, List.take_of_length_le (Nat.le_refl l.length)]
theorem copy_own (s : St) (p t p' t' : Nat) (m l : List Nat) (hs : s p = ⟨t, .buf (encC m)⟩) (hs' : s p' = ⟨t', .buf (encC l)⟩) (len : Nat) (hm : m.length = len) (hl : l.length = len) : copyA Tryz.prog #[25, 25] s (.own p t 0 len 1) (.own p' t' 0 len 1) =
    some (.int .i64 (len : Int), upd s p ⟨t, .buf (encC l)⟩) := by
  have e1 : (#[25, 25] : Array TypeId)[0]? = some 25 := rfl
  have e2 : (#[25, 25] : Array TypeId)[1]? = some 25 := rfl
  subst hm
  have hmin : Nat.min m.length m.length = m.length := Nat.min_eq_left (Nat.le_refl _)
  simp only [copyA, e1, e2, Option.map_some, tk22, esz31, Option.bind_some, moreA, cellsAt_E, hs', cellsE_buf, encC_len, Nat.mul_one, if_true, hs, Nat.zero_add, hl, Nat.le_refl, and_self, List.drop_zero, encC_take, hmin, splice_enc, List.take_zero, List.nil_append]
  have e3 : (l.take m.length).take m.length = l := by rw [List.take_of_length_le (by rw [List.length_take]; omega), List.take_of_length_le (by omega)]
  rw [e3, hl, List.drop_of_length_le (Nat.le_refl _), List.append_nil]
theorem len_own (s : St) (p t off len : Nat) (xs : List AV) (hs : s p = ⟨t, .buf xs⟩) : lenA Tryz.prog 25 s (.own p t off len 1) = some (.int .i64 (len : Int)) := by
  simp [lenA, tk22, live, cellsAt_E, hs, cellsE_buf]
/-- The bits, as a list of limbs. -/
def tcL (z : Int) : List Nat := if z < 0 then (digs (z.natAbs - 1) ++ List.replicate (13 - (digs (z.natAbs - 1)).length) 0).map (4294967295 - ·) else digs z.natAbs ++ List.replicate (13 - (digs z.natAbs).length) 0
theorem limbs_rep (k : Nat) : Limbs (List.replicate k 0) := fun x hx => by rw [List.eq_of_mem_replicate hx]; decide
theorem pad_val (v : Nat) (k : Nat) : val (digs v ++ List.replicate k 0) = v := by rw [val_zeros, val_digs]
theorem tcL_ok (z : Int) (h : z.natAbs < B ^ 12) : Limbs (tcL z) ∧ (tcL z).length = 13 ∧ val (tcL z) = tcZ z := by
  have hd := digs_len z.natAbs 12 h
  have hd1 := digs_len (z.natAbs - 1) 12 (by omega)
  unfold tcL tcZ
  by_cases hz : z < 0
  · rw [if_pos hz, if_pos hz]
    have hL : Limbs (digs (z.natAbs - 1) ++ List.replicate (13 - (digs (z.natAbs - 1)).length) 0) := (limbs_digs _).app (limbs_rep _)
    have hl : (digs (z.natAbs - 1) ++ List.replicate (13 - (digs (z.natAbs - 1)).length) 0).length = 13 := by
      rw [List.length_append, List.length_replicate]; omega
    refine ⟨limbs_not _, by rw [List.length_map, hl], ?_⟩
    have hv := val_not _ hL
    rw [hl, pad_val] at hv
    omega
  · rw [if_neg hz, if_neg hz]
    exact ⟨(limbs_digs _).app (limbs_rep _), by rw [List.length_append, List.length_replicate]; omega, pad_val _ _⟩
theorem finish_own (xs : List Arg) (t p e len : Nat) (l : List Nat) (env : Env) (s : St) (os : List (List AV)) (hv : env t = .own p e 0 len 1) (hs : s p = ⟨e, .buf (encC l)⟩) (hp : xs.length ≤ p) (hl : l.length = len) (ho : outsA s 0 xs = some os) :
    finishP Tryz.prog true xs #[.tmp t] env s = some (.own (encC l) len 1, os) := by
  have hc : len * 1 ≤ (encC l).length := by rw [encC_len]; omega
  simp only [finishP_t1, finish, hv, finish1, if_true, hs, hp, hc, and_self, Option.bind_some, ho, Option.map_some]
/-- Every limb turned, from a place on. -/
def notI (m : List Nat) (i : Nat) : List Nat := (m.take i).map (4294967295 - ·) ++ m.drop i
theorem notI_len (m : List Nat) (i : Nat) : (notI m i).length = m.length := by
  simp only [notI, List.length_append, List.length_map, List.length_take, List.length_drop]; omega
theorem notI_get (m : List Nat) (i : Nat) (h : i < m.length) : (notI m i).getD i 0 = m.getD i 0 := by
  have hl : ((m.take i).map (4294967295 - ·)).length = i := by rw [List.length_map, List.length_take]; omega
  rw [notI, List.getD_eq_getElem?_getD, List.getD_eq_getElem?_getD, List.getElem?_append_right (by omega), hl, Nat.sub_self, List.getElem?_drop, Nat.add_zero]
theorem notI_set (m : List Nat) (i : Nat) (h : i < m.length) : (notI m i).set i (4294967295 - m.getD i 0) = notI m (i + 1) := by
  have hl : ((m.take i).map (4294967295 - ·)).length = i := by rw [List.length_map, List.length_take]; omega
  rw [notI, List.set_append_right _ _ (by omega), hl, Nat.sub_self]
  have hd : m.drop i = m.getD i 0 :: m.drop (i + 1) := by
    rw [List.drop_eq_getElem_cons h]
    simp [List.getD_eq_getElem?_getD, h]
  rw [hd, List.set_cons_zero, notI, List.take_succ_eq_append_getElem h, List.map_append, List.append_assoc]
  simp [List.getD_eq_getElem?_getD, h]
theorem notI_0 (m : List Nat) : notI m 0 = m := by simp [notI]
theorem notI_all (m : List Nat) : notI m m.length = m.map (4294967295 - ·) := by simp [notI]
end Go.Ab

/- A number's bits. Conditions: numbers that are shown. -/
namespace Go.Ab
open Go.Proofs
set_option maxRecDepth 100000
set_option linter.unusedSimpArgs false

set_option maxHeartbeats 8000000 in
theorem nbits_eq (n d : Nat) (hn : 100000 ≤ n) (g : Gk) (z : Int) (h : z.natAbs < B ^ 12) : evalFn Tryz.prog cfg0 n (d+5) 106 [.tree (canA g z)] = some (.own (encC (tcL z)) 13 1, [[]]) := by
  rw [evalFn_go _ Tryz.func106 (by unfold Tryz.f106; rfl) (by unfold Tryz.f106; decide) (Nat.le_of_ble_eq_true (by unfold Tryz.f106; rfl)) (by kernel_rfl)]
  have hd := digs_len z.natAbs 12 h
  have hd1 := digs_len (z.natAbs - 1) 12 (by omega)
  have mk := fun s => make22 5 s 13 (by decide) (by decide)
  rw [show (13 : Int).toNat = 13 from rfl] at mk
  simp only [simB, zbo, Nat.reduceBEq, own0, ↓reduceIte, Nat.reduceEqDiff, Nat.reduceAdd, env0, List.getElem?_cons_zero, List.getElem?_cons_succ, zdv, zdw, zdx, zdy, zdz, zea, zeb, zec, ia22, ld31, zed, zee, zef, zeg, zeh, zei, zej, zek, zel, zem, zen, zeo, zep, zeq, zer, fa_0, fa_1, zes, bd_0, bd_2, zet, fd_1, zeu, Nat.zero_add, st0_1, mk]
  refine forgetS (fun s => copyA Tryz.prog #[25, 25] s (.own 5 1 0 13 1) (encL g (digs z.natAbs))) (fun env s => env 1 = .ptr 1 1 0 ∧ env 3 = .own 5 1 0 13 1 ∧ s 1 = ⟨1, .buf [.bool (decide (z < 0)), encL g (digs z.natAbs)]⟩ ∧ s 5 = ⟨1, .buf (encC (List.replicate 13 0))⟩ ∧ (s 15).t = 0 ∧ outsA s 0 [.tree (canA g z)] = some [[]]) ⟨by simp only [zfp, ↓reduceIte, Nat.reduceEqDiff], by simp only [zfp, ↓reduceIte, Nat.reduceEqDiff], by simp only [zfp, ↓reduceIte, Nat.reduceEqDiff], by simp only [zfp, ↓reduceIte, Nat.reduceEqDiff], by simp only [zfp, ↓reduceIte, Nat.reduceEqDiff, zel], rfl⟩ ?_
  intro env s ⟨e1, e3, j1, j5, j15, ho⟩
  have cp := copy_L s 5 1 (List.replicate 13 0) (digs z.natAbs) g j5 13 rfl (by omega)
  rw [cp, show (List.replicate 13 0).drop (digs z.natAbs).length = List.replicate (13 - (digs z.natAbs).length) 0 by rw [List.drop_replicate]]
  by_cases hz : z < 0
  · rw [show tcL z = (digs (z.natAbs - 1) ++ List.replicate (13 - (digs (z.natAbs - 1)).length) 0).map (4294967295 - ·) by rw [tcL, if_pos hz]]
    generalize hm0 : digs z.natAbs ++ List.replicate (13 - (digs z.natAbs).length) 0 = m0
    have hm0l : m0.length = 13 := by rw [← hm0, List.length_append, List.length_replicate]; omega
    have j5' : (upd s 5 ⟨1, .buf (encC m0)⟩) 5 = ⟨1, .buf (encC m0)⟩ := upd_self _ _ _
    have ln := fun s' hs' => len_own s' 5 1 0 13 (encC m0) hs'
    have ln1 := ln _ j5'
    rw [show ((13 : Nat) : Int) = 13 from rfl] at ln1
    have mk2 := fun s => make22 15 s 13 (by decide) (by decide)
    rw [show (13 : Int).toNat = 13 from rfl] at mk2
    simp only [simB, zbo, Nat.reduceBEq, own0, ↓reduceIte, Nat.reduceEqDiff, Nat.reduceAdd, env0, List.getElem?_cons_zero, List.getElem?_cons_succ, zdv, zdw, zdx, zdy, zdz, zea, zeb, zec, ia22, ld31, zed, zee, zef, zeg, zeh, zei, zej, zek, zel, zem, zen, zeo, zep, zeq, zer, fa_0, fa_1, zes, bd_0, bd_2, zet, fd_1, zeu, Nat.zero_add, e1, e3, j1, j15, hz, ln1, mk2]
    refine forgetS (fun s => copyA Tryz.prog #[25, 25] s (.own 5 1 0 13 1) (.own 15 1 0 13 1)) (fun env s => env 1 = .ptr 1 1 0 ∧ env 3 = .own 5 1 0 13 1 ∧ s 1 = ⟨1, .buf [.bool true, encL g (digs z.natAbs)]⟩ ∧ s 5 = ⟨1, .buf (encC m0)⟩ ∧ s 15 = ⟨1, .buf (encC (List.replicate 13 0))⟩) ⟨by simp only [zfp, ↓reduceIte, Nat.reduceEqDiff, e1], by simp only [zfp, ↓reduceIte, Nat.reduceEqDiff, e3], by simp only [zfp, ↓reduceIte, Nat.reduceEqDiff, j1, hz, decide_true], by simp only [zfp, ↓reduceIte, Nat.reduceEqDiff], by simp only [zfp, ↓reduceIte, Nat.reduceEqDiff]⟩ ?_
    clear e1 e3 j1 j5 j15 ho cp j5' ln1
    intro env s ⟨e1, e3, j1, j5, j15⟩
    rw [copy_own s 5 1 15 1 m0 (List.replicate 13 0) j5 j15 13 hm0l rfl]
    have c4 := fun D s => cSubOne n d hn D s g z h
    simp only [simB, zbo, Nat.reduceBEq, own0, ↓reduceIte, Nat.reduceEqDiff, Nat.reduceAdd, env0, List.getElem?_cons_zero, List.getElem?_cons_succ, zdv, zdw, zdx, zdy, zdz, zea, zeb, zec, ia22, ld31, zed, zee, zef, zeg, zeh, zei, zej, zek, zel, zem, zen, zeo, zep, zeq, zer, fa_0, fa_1, zes, bd_0, bd_2, zet, fd_1, zeu, Nat.zero_add, e1, e3, j1, opA_one, one22_int, c4]
    refine forgetS (fun s => copyA Tryz.prog #[25, 25] s (.own 5 1 0 13 1) (encR (z.natAbs - 1))) (fun env s => env 3 = .own 5 1 0 13 1 ∧ s 5 = ⟨1, .buf (encC (List.replicate 13 0))⟩) ⟨by simp only [zfp, ↓reduceIte, Nat.reduceEqDiff, e3], by simp only [zfp, ↓reduceIte, Nat.reduceEqDiff]⟩ ?_
    clear e1 e3 j1 j5 j15
    intro env s ⟨e3, j5⟩
    have cp := copy_L s 5 1 (List.replicate 13 0) (digs (z.natAbs - 1)) (if z.natAbs - 1 = 0 then .n else .l) j5 13 rfl (by omega)
    rw [show encL (if z.natAbs - 1 = 0 then .n else .l) (digs (z.natAbs - 1)) = encR (z.natAbs - 1) from rfl, show (List.replicate 13 0).drop (digs (z.natAbs - 1)).length = List.replicate (13 - (digs (z.natAbs - 1)).length) 0 by rw [List.drop_replicate]] at cp
    rw [cp]
    generalize hm : digs (z.natAbs - 1) ++ List.replicate (13 - (digs (z.natAbs - 1)).length) 0 = m
    have hml : m.length = 13 := by rw [← hm, List.length_append, List.length_replicate]; omega
    have hmL : Limbs m := by rw [← hm]; exact (limbs_digs _).app (limbs_rep _)
    have j5' : (upd s 5 ⟨1, .buf (encC m)⟩) 5 = ⟨1, .buf (encC m)⟩ := upd_self _ _ _
    have ln1 := len_own _ 5 1 0 13 (encC m) j5'
    rw [show ((13 : Nat) : Int) = 13 from rfl] at ln1
    simp only [simB, zbo, Nat.reduceBEq, own0, ↓reduceIte, Nat.reduceEqDiff, Nat.reduceAdd, env0, List.getElem?_cons_zero, List.getElem?_cons_succ, zdv, zdw, zdx, zdy, zdz, zea, zeb, zec, ia22, ld31, zed, zee, zef, zeg, zeh, zei, zej, zek, zel, zem, zen, zeo, zep, zeq, zer, fa_0, fa_1, zes, bd_0, bd_2, zet, fd_1, zeu, Nat.zero_add, e3, ln1, den_loop]
    refine loop_ends (X := Nat) (fun i env s => env 3 = .own 5 1 0 13 1 ∧ env 24 = .int .i64 13 ∧ env 25 = .int .i64 (i : Int) ∧ s 5 = ⟨1, .buf (encC (notI m i))⟩ ∧ i ≤ 13) (fun i => 13 - i) (fun _ => (.own (encC (m.map (4294967295 - ·))) 13 1, [[]])) ?_ n 0 _ _ (by omega) ⟨by simp only [zfp, ↓reduceIte, Nat.reduceEqDiff, e3], by simp only [zfp, ↓reduceIte, Nat.reduceEqDiff], by simp only [zfp, ↓reduceIte, Nat.reduceEqDiff]; rfl, by rw [notI_0]; exact j5', by omega⟩
    intro k i hx ih env s ⟨e3, e24, e25, j5, hi⟩
    by_cases hp : i = 13
    · subst hp
      have q1 : ¬ (((13 : Nat) : Int) < 13) := by omega
      simp only [simB, zbo, Nat.reduceBEq, own0, ↓reduceIte, Nat.reduceEqDiff, Nat.reduceAdd, env0, List.getElem?_cons_zero, List.getElem?_cons_succ, zdv, zdw, zdx, zdy, zdz, zea, zeb, zec, ia22, ld31, zed, zee, zef, zeg, zeh, zei, zej, zek, zel, zem, zen, zeo, zep, zeq, zer, fa_0, fa_1, zes, bd_0, bd_2, zet, fd_1, zeu, Nat.zero_add, e3, e24, e25, q1]
      rw [← hml, notI_all] at j5
      exact finish_own _ _ 5 1 13 _ _ _ _ (by simp only [zfp, ↓reduceIte]) j5 (by simp) (by rw [List.length_map, hml]) rfl
    · have q1 : (i : Int) < 13 := by omega
      have q2 : (0 : Int) ≤ (i : Int) := by omega
      have hol : (notI m i).length = 13 := by rw [notI_len, hml]
      have ia := ia_own s 5 1 _ 13 .i64 (i : Int) j5 q2 q1
      rw [Int.toNat_natCast] at ia
      have ld := ld_own s 5 1 (notI m i) i j5 (by omega)
      rw [notI_get m i (by omega)] at ld
      have nt := s_not (m.getD i 0) (getD_lt m hmL i)
      have st := st31 s 5 1 _ i (4294967295 - m.getD i 0) j5 (by omega)
      rw [notI_set m i (by omega)] at st
      have f4 := i_add Tryz.prog 3 (i : Int) 1 (by omega) (by omega)
      simp only [simB, zbo, Nat.reduceBEq, own0, ↓reduceIte, Nat.reduceEqDiff, Nat.reduceAdd, env0, List.getElem?_cons_zero, List.getElem?_cons_succ, zdv, zdw, zdx, zdy, zdz, zea, zeb, zec, ia22, ld31, zed, zee, zef, zeg, zeh, zei, zej, zek, zel, zem, zen, zeo, zep, zeq, zer, fa_0, fa_1, zes, bd_0, bd_2, zet, fd_1, zeu, Nat.zero_add, e3, e24, e25, q1, ia, ld, nt, st, f4]
      refine ih (i + 1) _ _ (by omega) rfl ⟨?_, ?_, ?_, ?_, by omega⟩
      · simp only [zfp, ↓reduceIte, Nat.reduceEqDiff, e3]
      · simp only [zfp, ↓reduceIte, Nat.reduceEqDiff, e24]
      · simp only [zfp, ↓reduceIte, Nat.reduceEqDiff]; rfl
      · simp only [zfp, ↓reduceIte, Nat.reduceEqDiff]
  · rw [show tcL z = digs z.natAbs ++ List.replicate (13 - (digs z.natAbs).length) 0 by rw [tcL, if_neg hz]]
    simp only [simB, zbo, Nat.reduceBEq, own0, ↓reduceIte, Nat.reduceEqDiff, Nat.reduceAdd, env0, List.getElem?_cons_zero, List.getElem?_cons_succ, zdv, zdw, zdx, zdy, zdz, zea, zeb, zec, ia22, ld31, zed, zee, zef, zeg, zeh, zei, zej, zek, zel, zem, zen, zeo, zep, zeq, zer, fa_0, fa_1, zes, bd_0, bd_2, zet, fd_1, zeu, Nat.zero_add, e1, e3, j1, hz]
    exact finish_own _ _ 5 1 13 _ _ _ _ (by simp only [zfp, ↓reduceIte]) (by simp only [zfp, ↓reduceIte]) (by simp) (by rw [List.length_append, List.length_replicate]; omega) rfl
end Go.Ab

/- Logic of numbers. Conditions: numbers that are shown. -/
namespace Go.Ab
open Go.Proofs
set_option maxRecDepth 100000
set_option linter.unusedSimpArgs false

theorem callA_own {cfg : Cfg} {call : FuncId → List Arg → Option Out} {d : Nat} {s : St} {f : FuncId} {vs : List AV} {xs : List AV} {len e : Nat} (ht : vs.all isTree = true) (hc : call f (vs.map Arg.tree) = some (.own xs len e, vs.map fun _ => [])) : callA cfg call d s f vs = some (.own d ((s d).t + 1) 0 len e, upd s d ⟨(s d).t + 1, .buf xs⟩) := by
  simp only [callA, argsA_trees f s vs 0 ht, Option.bind_some, givesL_trees, lendsL_trees vs ht, List.nodup_nil, List.not_mem_nil, false_implies, implies_true, and_self, if_true, hc, List.foldl_nil, ite_self, backA_trees, resA]
theorem made_own (n d : Nat) (hn : 100000 ≤ n) (D : Nat) (s : St) (b : Bool) (p t : Nat) (o : List Nat) (len : Nat) (hp : s p = ⟨t, .buf (encC o)⟩) (hl : o.length = len) (hk : len ≤ 1000) (hL : Limbs o) : callA cfg0 (evalFn Tryz.prog cfg0 n (d+2)) D s 74 [.bool b, .own p t 0 len 1] = some (madeV (sgn b (val o)), upd s p ⟨t, .frz (encC o)⟩) := by
  subst hl
  have this := made_eq n d b .l o hL (by omega) (by omega)
  rw [show encL .l o = .sl (encC o) o.length .loose from rfl] at this
  have hf : flatR (.tree (madeV (sgn b (val o)))) = false := rfl
  rw [← madeV_eq] at this
  have ht : (encC o).take o.length = encC o := List.take_of_length_le (by rw [encC_len]; exact Nat.le_refl _)
  have hfz : frzAt s p = upd s p ⟨t, .frz (encC o)⟩ := by unfold frzAt; rw [hp]
  simp [callA, argsA, argA, cellsAt, hp, ht, encC_len, givesL, lendsL, givesOf, lendsOf, this, hf, backA, resA, hfz, lin0]
theorem add_own1 (n d : Nat) (hn : 100000 ≤ n) (D : Nat) (s : St) (p t : Nat) (o : List Nat) (len : Nat) (hp : s p = ⟨t, .buf (encC o)⟩) (hl : o.length = len) (hk : len ≤ 1000) (hL : Limbs o) : callA cfg0 (evalFn Tryz.prog cfg0 n (d+2)) D s 101 [.own p t 0 len 1, .sl [.int .u32 1] 1 .tight] = some (encR (val o + 1), upd s p ⟨t, .frz (encC o)⟩) := by
  subst hl
  have this := fnAdd_eq n d .l .t o [1] hL (limbs_one (by decide)) (by omega) (by simp; omega) (by omega) (by simp)
  rw [show encL .l o = .sl (encC o) o.length .loose from rfl, show encL .t [1] = .sl [.int .u32 1] 1 .tight from rfl, show val [1] = 1 from rfl] at this
  have hf : flatR (.tree (encR (val o + 1))) = false := rfl
  have ht : (encC o).take o.length = encC o := List.take_of_length_le (by rw [encC_len]; exact Nat.le_refl _)
  have hfz : frzAt s p = upd s p ⟨t, .frz (encC o)⟩ := by unfold frzAt; rw [hp]
  simp [callA, argsA, argA, cellsAt, hp, ht, encC_len, givesL, lendsL, givesOf, lendsOf, this, hf, backA, resA, hfz, lin0]
/-- Put together up to a place. -/
def zipI (op : Nat) (x y : List Nat) (i : Nat) : List Nat := (List.zipWith (wordN op) x y).take i ++ x.drop i
theorem zipI_len (op : Nat) (x y : List Nat) (i : Nat) (h : x.length = y.length) : (zipI op x y i).length = x.length := by
  simp only [zipI, List.length_append, List.length_take, List.length_zipWith, List.length_drop]; omega
theorem zipI_0 (op : Nat) (x y : List Nat) : zipI op x y 0 = x := by simp [zipI]
theorem zipI_all (op : Nat) (x y : List Nat) (h : x.length = y.length) : zipI op x y x.length = List.zipWith (wordN op) x y := by
  simp only [zipI, List.drop_length, List.append_nil]
  exact List.take_of_length_le (by rw [List.length_zipWith]; omega)
theorem zipI_get (op : Nat) (x y : List Nat) (i : Nat) (h : x.length = y.length) (hi : i < x.length) : (zipI op x y i).getD i 0 = x.getD i 0 := by
  have hl : ((List.zipWith (wordN op) x y).take i).length = i := by rw [List.length_take, List.length_zipWith]; omega
  rw [zipI, List.getD_eq_getElem?_getD, List.getD_eq_getElem?_getD, List.getElem?_append_right (by omega), hl, Nat.sub_self, List.getElem?_drop, Nat.add_zero]
theorem zipI_set (op : Nat) (x y : List Nat) (i : Nat) (h : x.length = y.length) (hi : i < x.length) : (zipI op x y i).set i (wordN op (x.getD i 0) (y.getD i 0)) = zipI op x y (i + 1) := by
  have hz : i < (List.zipWith (wordN op) x y).length := by rw [List.length_zipWith]; omega
  have hl : ((List.zipWith (wordN op) x y).take i).length = i := by rw [List.length_take]; omega
  rw [zipI, List.set_append_right _ _ (by omega), hl, Nat.sub_self, List.drop_eq_getElem_cons hi, List.set_cons_zero, zipI, List.take_succ_eq_append_getElem hz, List.append_assoc]
  have hiy : i < y.length := by omega
  simp [List.getD_eq_getElem?_getD, hi, hiy]
set_option maxHeartbeats 8000000 in
theorem logic_eq (n d : Nat) (hn : 100000 ≤ n) (op : Nat) (g g' : Gk) (z z' : Int) (hlt : z.natAbs < B ^ 12) (hlt' : z'.natAbs < B ^ 12) : evalFn Tryz.prog cfg0 n (d+6) 77 [.tree (.int .i64 (op : Int)), .tree (canA g z), .tree (canA g' z')] = some (.tree (madeV (logZ op z z')), [[], [], []]) := by
  rw [evalFn_go _ Tryz.func77 (by unfold Tryz.f77; rfl) (by unfold Tryz.f77; decide) (Nat.le_of_ble_eq_true (by unfold Tryz.f77; rfl)) (by kernel_rfl)]
  have b1 := fun D s => callA_own (cfg := cfg0) (d := D) (s := s) (vs := [canA g z]) rfl (nbits_eq n d hn g z hlt)
  have b2 := fun D s => callA_own (cfg := cfg0) (d := D) (s := s) (vs := [canA g' z']) rfl (nbits_eq n d hn g' z' hlt')
  obtain ⟨hx, hxl, hxv⟩ := tcL_ok z hlt
  obtain ⟨hy, hyl, hyv⟩ := tcL_ok z' hlt'
  have tt : ∀ g z, ([canA g z] : List AV).all isTree = true := fun _ _ => rfl
  simp only [simB, zbo, Nat.reduceBEq, own0, ↓reduceIte, Nat.reduceEqDiff, Nat.reduceAdd, env0, List.getElem?_cons_zero, List.getElem?_cons_succ, zdv, zdw, zdx, zdy, zdz, zea, zeb, zec, ia22, ld31, zed, zee, zef, zeg, zeh, zei, zej, zek, zel, zem, zen, zeo, zep, zeq, zer, fa_0, fa_1, zes, bd_0, bd_2, zet, fd_1, zeu, Nat.zero_add, st0_3', b1, b2, tt]
  generalize hX : tcL z = x at *
  generalize hY : tcL z' = y at *
  refine forgetS (fun s => (lenA Tryz.prog 25 s (.own 13 1 0 13 1)).map (·, s)) (fun env s => env 0 = .int .i64 (op : Int) ∧ env 6 = .ptr 6 1 0 ∧ env 8 = .own 13 1 0 13 1 ∧ env 9 = .own 15 1 0 13 1 ∧ s 13 = ⟨1, .buf (encC x)⟩ ∧ s 15 = ⟨1, .buf (encC y)⟩ ∧ ∃ p q, s 6 = ⟨1, .buf [p, q]⟩) ⟨by simp only [zfp, ↓reduceIte, Nat.reduceEqDiff, env0, List.getElem?_cons_zero, List.getElem?_cons_succ], by simp only [zfp, ↓reduceIte, Nat.reduceEqDiff], by simp only [zfp, ↓reduceIte, Nat.reduceEqDiff], by simp only [zfp, ↓reduceIte, Nat.reduceEqDiff], by simp only [zfp, ↓reduceIte, Nat.reduceEqDiff], by simp only [zfp, ↓reduceIte, Nat.reduceEqDiff], .bool false, .sl [] 0 .nil, by simp only [zfp, ↓reduceIte, Nat.reduceEqDiff]⟩ ?_
  clear b1 b2
  intro env s ⟨e0, e6, e8, e9, j13, j15, p, q, j6⟩
  have ln := len_own s 13 1 0 13 _ j13
  rw [show ((13 : Nat) : Int) = 13 from rfl] at ln
  simp only [simB, zbo, Nat.reduceBEq, own0, ↓reduceIte, Nat.reduceEqDiff, Nat.reduceAdd, zdv, zdw, zdx, zdy, zdz, zea, zeb, zec, ia22, ld31, zed, zee, zef, zeg, zeh, zei, zej, zek, zel, zem, zen, zeo, zep, zeq, zer, fa_0, fa_1, zes, bd_0, bd_2, zet, fd_1, zeu, Nat.zero_add, ln, den_loop]
  refine loop_ends (X := Nat) (fun i env s => env 0 = .int .i64 (op : Int) ∧ env 6 = .ptr 6 1 0 ∧ env 8 = .own 13 1 0 13 1 ∧ env 9 = .own 15 1 0 13 1 ∧ env 17 = .int .i64 13 ∧ env 18 = .int .i64 (i : Int) ∧ s 13 = ⟨1, .buf (encC (zipI op x y i))⟩ ∧ s 15 = ⟨1, .buf (encC y)⟩ ∧ s 6 = ⟨1, .buf [p, q]⟩ ∧ i ≤ 13) (fun i => 13 - i) (fun _ => (.tree (madeV (logZ op z z')), [[], [], []])) ?_ n 0 _ _ (by omega) ⟨by simp only [zfp, ↓reduceIte, Nat.reduceEqDiff, e0], by simp only [zfp, ↓reduceIte, Nat.reduceEqDiff, e6], by simp only [zfp, ↓reduceIte, Nat.reduceEqDiff, e8], by simp only [zfp, ↓reduceIte, Nat.reduceEqDiff, e9], by simp only [zfp, ↓reduceIte, Nat.reduceEqDiff], by simp only [zfp, ↓reduceIte, Nat.reduceEqDiff]; rfl, by rw [zipI_0]; exact j13, j15, j6, by omega⟩
  clear e0 e6 e8 e9 j13 j15 j6 ln
  intro k i hxk ih env s ⟨e0, e6, e8, e9, e17, e18, j13, j15, j6, hi⟩
  by_cases hp : i = 13
  · subst hp
    have q1 : ¬ (((13 : Nat) : Int) < 13) := by omega
    have hza := zipI_all op x y (by omega)
    rw [hxl] at hza
    rw [hza] at j13
    have hzL := limbs_zip op x y hx hy
    have hzv := val_zip op x y hx hy (by omega)
    have hzl : (List.zipWith (wordN op) x y).length = 13 := by rw [List.length_zipWith]; omega
    rw [hxv, hyv] at hzv
    generalize hO : List.zipWith (wordN op) x y = o at *
    have htop := top_limb o hzL hzl
    have ia := ia_own s 13 1 o 13 .i64 12 j13 (by decide) (by decide)
    rw [show (12 : Int).toNat = 12 from rfl] at ia
    have ld := ld_own s 13 1 o 12 j13 (by omega)
    have sh := s_shr Tryz.prog 57 (o.getD 12 0) .u64 31 (by decide) (by decide)
    rw [show (2 : Nat) ^ (31 : Int).toNat = 2 ^ 31 from rfl] at sh
    by_cases ht : o.getD 12 0 / 2 ^ 31 = 0
    · have pt : (((o.getD 12 0 / 2 ^ 31 : Nat) : Int) == 0) = true := by rw [ht]; rfl
      have hres : sgn false (val o) = logZ op z z' := by
        rw [logZ, ← hzv, unZ, htop, if_pos ht]; rfl
      have c1 := fun D => made_own n (d + 3) hn D s false 13 1 o 13 j13 hzl (by omega) hzL
      rw [hres] at c1
      simp only [simB, zbo, Nat.reduceBEq, own0, ↓reduceIte, Nat.reduceEqDiff, Nat.reduceAdd, env0, List.getElem?_cons_zero, List.getElem?_cons_succ, zdv, zdw, zdx, zdy, zdz, zea, zeb, zec, ia22, ld31, zed, zee, zef, zeg, zeh, zei, zej, zek, zel, zem, zen, zeo, zep, zeq, zer, fa_0, fa_1, zes, bd_0, bd_2, zet, fd_1, zeu, Nat.zero_add, e0, e6, e8, e9, e17, e18, q1, ia, ld, sh, pt, c1, madeV_eq, ext_0, ext_1, st_Z, j6]
      exact finish_ct _ _ 6 6 1 _ _ _ _ _ _ _ (by simp only [zfp, ↓reduceIte, Nat.reduceEqDiff, e6]) (by simp only [zfp, ↓reduceIte, Nat.reduceEqDiff]) (by simp only [zfp, ↓reduceIte, Nat.reduceEqDiff]) rfl
    · have pt : (((o.getD 12 0 / 2 ^ 31 : Nat) : Int) == 0) = false := by rw [beq_eq_false_iff_ne]; omega
      have ln := len_own s 13 1 0 13 _ j13
      rw [show ((13 : Nat) : Int) = 13 from rfl] at ln
      have hnot := val_not o hzL
      rw [hzl] at hnot
      have hres : sgn true (val (o.map (4294967295 - ·)) + 1) = logZ op z z' := by
        rw [logZ, ← hzv, unZ, htop, if_neg ht]
        show -((val (o.map (4294967295 - ·)) + 1 : Nat) : Int) = _
        rw [show val (o.map (4294967295 - ·)) + 1 = B ^ 13 - val o by omega]
      simp only [simB, zbo, Nat.reduceBEq, own0, ↓reduceIte, Nat.reduceEqDiff, Nat.reduceAdd, env0, List.getElem?_cons_zero, List.getElem?_cons_succ, zdv, zdw, zdx, zdy, zdz, zea, zeb, zec, ia22, ld31, zed, zee, zef, zeg, zeh, zei, zej, zek, zel, zem, zen, zeo, zep, zeq, zer, fa_0, fa_1, zes, bd_0, bd_2, zet, fd_1, zeu, Nat.zero_add, e0, e6, e8, e9, e17, e18, q1, ia, ld, sh, pt, ln, den_loop]
      refine loop_ends (X := Nat) (fun i env s => env 6 = .ptr 6 1 0 ∧ env 8 = .own 13 1 0 13 1 ∧ env 45 = .int .i64 13 ∧ env 46 = .int .i64 (i : Int) ∧ s 13 = ⟨1, .buf (encC (notI o i))⟩ ∧ s 6 = ⟨1, .buf [p, q]⟩ ∧ i ≤ 13) (fun i => 13 - i) (fun _ => (.tree (madeV (logZ op z z')), [[], [], []])) ?_ n 0 _ _ (by omega) ⟨by simp only [zfp, ↓reduceIte, Nat.reduceEqDiff, e6], by simp only [zfp, ↓reduceIte, Nat.reduceEqDiff, e8], by simp only [zfp, ↓reduceIte, Nat.reduceEqDiff], by simp only [zfp, ↓reduceIte, Nat.reduceEqDiff]; rfl, by rw [notI_0]; exact j13, j6, by omega⟩
      clear e0 e6 e8 e9 e17 e18 j13 j15 j6 ia ld sh ln ih hxk
      intro k i hxk ih env s ⟨e6, e8, e45, e46, j13, j6, hi⟩
      by_cases hp : i = 13
      · subst hp
        have q1 : ¬ (((13 : Nat) : Int) < 13) := by omega
        have hna := notI_all o
        rw [hzl] at hna
        rw [hna] at j13
        have a1 := fun D => add_own1 n (d + 3) hn D s 13 1 (o.map (4294967295 - ·)) 13 j13 (by rw [List.length_map, hzl]) (by omega) (limbs_not o)
        have hfit : val (o.map (4294967295 - ·)) + 1 < B ^ 14 := by
          have : B ^ 13 * 4 ≤ B ^ 14 := by rw [show (14 : Nat) = 13 + 1 from rfl, Nat.pow_succ]; exact Nat.mul_le_mul_left _ (by decide)
          omega
        have c1 := fun D s => cMade n (d + 3) hn D s (num_R _ 14 (by decide) hfit) true
        rw [hres] at c1
        simp only [simB, zbo, Nat.reduceBEq, own0, ↓reduceIte, Nat.reduceEqDiff, Nat.reduceAdd, env0, List.getElem?_cons_zero, List.getElem?_cons_succ, zdv, zdw, zdx, zdy, zdz, zea, zeb, zec, ia22, ld31, zed, zee, zef, zeg, zeh, zei, zej, zek, zel, zem, zen, zeo, zep, zeq, zer, fa_0, fa_1, zes, bd_0, bd_2, zet, fd_1, zeu, Nat.zero_add, e6, e8, e45, e46, q1, opA_one, one22_int, a1, c1, madeV_eq, ext_0, ext_1, st_Z, j6]
        exact finish_ct _ _ 6 6 1 _ _ _ _ _ _ _ (by simp only [zfp, ↓reduceIte, Nat.reduceEqDiff, e6]) (by simp only [zfp, ↓reduceIte, Nat.reduceEqDiff]) (by simp only [zfp, ↓reduceIte, Nat.reduceEqDiff]) rfl
      · have q1 : (i : Int) < 13 := by omega
        have q2 : (0 : Int) ≤ (i : Int) := by omega
        have hol : (notI o i).length = 13 := by rw [notI_len, hzl]
        have ia := ia_own s 13 1 _ 13 .i64 (i : Int) j13 q2 q1
        rw [Int.toNat_natCast] at ia
        have ld := ld_own s 13 1 (notI o i) i j13 (by omega)
        rw [notI_get o i (by omega)] at ld
        have nt := s_not (o.getD i 0) (getD_lt o hzL i)
        have st := st31 s 13 1 _ i (4294967295 - o.getD i 0) j13 (by omega)
        rw [notI_set o i (by omega)] at st
        have f4 := i_add Tryz.prog 3 (i : Int) 1 (by omega) (by omega)
        simp only [simB, zbo, Nat.reduceBEq, own0, ↓reduceIte, Nat.reduceEqDiff, Nat.reduceAdd, env0, List.getElem?_cons_zero, List.getElem?_cons_succ, zdv, zdw, zdx, zdy, zdz, zea, zeb, zec, ia22, ld31, zed, zee, zef, zeg, zeh, zei, zej, zek, zel, zem, zen, zeo, zep, zeq, zer, fa_0, fa_1, zes, bd_0, bd_2, zet, fd_1, zeu, Nat.zero_add, e6, e8, e45, e46, q1, ia, ld, nt, st, f4]
        refine ih (i + 1) _ _ (by omega) rfl ⟨?_, ?_, ?_, ?_, ?_, ?_, by omega⟩
        · simp only [zfp, ↓reduceIte, Nat.reduceEqDiff, e6]
        · simp only [zfp, ↓reduceIte, Nat.reduceEqDiff, e8]
        · simp only [zfp, ↓reduceIte, Nat.reduceEqDiff, e45]
        · simp only [zfp, ↓reduceIte, Nat.reduceEqDiff]; rfl
        · simp only [zfp, ↓reduceIte, Nat.reduceEqDiff]
        · simp only [zfp, ↓reduceIte, Nat.reduceEqDiff, j6]
  · have q1 : (i : Int) < 13 := by omega
    have q2 : (0 : Int) ≤ (i : Int) := by omega
    have hol : (zipI op x y i).length = 13 := by rw [zipI_len op x y i (by omega), hxl]
    have ia := ia_own s 13 1 _ 13 .i64 (i : Int) j13 q2 q1
    rw [Int.toNat_natCast] at ia
    have ld := ld_own s 13 1 (zipI op x y i) i j13 (by omega)
    rw [zipI_get op x y i (by omega) (by omega)] at ld
    have ia2 := ia_own s 15 1 _ 13 .i64 (i : Int) j15 q2 q1
    rw [Int.toNat_natCast] at ia2
    have ld2 := ld_own s 15 1 y i j15 (by omega)
    have qw := qWord n (d + 4) op (x.getD i 0) (y.getD i 0) (getD_lt x hx i) (getD_lt y hy i)
    have st := st31 s 13 1 _ i (wordN op (x.getD i 0) (y.getD i 0)) j13 (by omega)
    rw [zipI_set op x y i (by omega) (by omega)] at st
    have f4 := i_add Tryz.prog 3 (i : Int) 1 (by omega) (by omega)
    simp only [simB, zbo, Nat.reduceBEq, own0, ↓reduceIte, Nat.reduceEqDiff, Nat.reduceAdd, env0, List.getElem?_cons_zero, List.getElem?_cons_succ, zdv, zdw, zdx, zdy, zdz, zea, zeb, zec, ia22, ld31, zed, zee, zef, zeg, zeh, zei, zej, zek, zel, zem, zen, zeo, zep, zeq, zer, fa_0, fa_1, zes, bd_0, bd_2, zet, fd_1, zeu, Nat.zero_add, e0, e6, e8, e9, e17, e18, q1, ia, ld, ia2, ld2, qw, st, f4]
    refine ih (i + 1) _ _ (by omega) rfl ⟨?_, ?_, ?_, ?_, ?_, ?_, ?_, ?_, ?_, by omega⟩
    · simp only [zfp, ↓reduceIte, Nat.reduceEqDiff, e0]
    · simp only [zfp, ↓reduceIte, Nat.reduceEqDiff, e6]
    · simp only [zfp, ↓reduceIte, Nat.reduceEqDiff, e8]
    · simp only [zfp, ↓reduceIte, Nat.reduceEqDiff, e9]
    · simp only [zfp, ↓reduceIte, Nat.reduceEqDiff, e17]
    · simp only [zfp, ↓reduceIte, Nat.reduceEqDiff]; rfl
    · simp only [zfp, ↓reduceIte, Nat.reduceEqDiff]
    · simp only [zfp, ↓reduceIte, Nat.reduceEqDiff, j15]
    · simp only [zfp, ↓reduceIte, Nat.reduceEqDiff, j6]
end Go.Ab

/- Op: logic; the statements' own way to call it. Conditions: numbers that are shown. -/
namespace Go.Ab
open Go.Proofs
set_option maxRecDepth 100000
set_option linter.unusedSimpArgs false
theorem cLogic (n d : Nat) (hn : 100000 ≤ n) (op : Nat) (g g' : Gk) (z z' : Int) (hlt : z.natAbs < B ^ 12) (hlt' : z'.natAbs < B ^ 12) (D : Nat) (s : St) : callA cfg0 (evalFn Tryz.prog cfg0 n (d+6)) D s 77 [.int .i64 (op : Int), canA g z, canA g' z'] = some (madeV (logZ op z z'), s) :=
  callA_trees rfl (logic_eq n d hn op g g' z z' hlt hlt')
section
variable (n d : Nat) (hn : 100000 ≤ n) {w w' : AV} {z z' : Int} (hw : IsN w z) (hw' : IsN w' z')
include hn hw hw'
set_option maxHeartbeats 8000000
theorem op6_eq : evalFn Tryz.prog cfg0 n (d+7) 49 [.tree (.int .i64 6), .tree w, .tree w'] = some (.tree (madeV (logZ 6 z z')), [[], [], []]) := by
  obtain ⟨g, c1⟩ := qOf n (d + 4) hw
  obtain ⟨g', c2⟩ := qOf n (d + 4) hw'
  have hlt := hw.lt
  have hlt' := hw'.lt
  obtain ⟨neg, g0, l, rfl, hl, hz⟩ := hw
  obtain ⟨neg', g0', l', rfl, hl', hz'⟩ := hw'
  rw [evalFn_go _ Tryz.func49 (by unfold Tryz.f49; rfl) (by unfold Tryz.f49; decide) (Nat.le_of_ble_eq_true (by unfold Tryz.f49; rfl)) (by kernel_rfl)]
  have c3 := fun D s => cLogic n d hn 6 g g' z z' hlt hlt' D s
  rw [show ((6 : Nat) : Int) = 6 from rfl] at c3
  simp only [simB, zbo, Nat.reduceBEq, own0, ↓reduceIte, Nat.reduceEqDiff, Nat.reduceAdd, env0, List.getElem?_cons_zero, List.getElem?_cons_succ, zdv, zdw, zdx, zdy, zdz, zea, zeb, zec, ia22, ld31, zed, zee, zef, zeg, zeh, zei, zej, zek, zel, zem, zen, zeo, zep, zeq, zer, fa_0, fa_1, zes, bd_0, bd_2, zet, fd_1, zeu, Nat.zero_add, st0_3', c1, c2, Int.reduceBEq, c3, madeV_eq, ext_0, ext_1, st_Z]
  exact finish_ct _ _ 6 6 1 _ _ _ _ _ _ _ (by simp only [zfp, ↓reduceIte, Nat.reduceEqDiff]) (by simp only [zfp, ↓reduceIte, Nat.reduceEqDiff]) (by simp only [zfp, ↓reduceIte, Nat.reduceEqDiff]) rfl
theorem op7_eq : evalFn Tryz.prog cfg0 n (d+7) 49 [.tree (.int .i64 7), .tree w, .tree w'] = some (.tree (madeV (logZ 7 z z')), [[], [], []]) := by
  obtain ⟨g, c1⟩ := qOf n (d + 4) hw
  obtain ⟨g', c2⟩ := qOf n (d + 4) hw'
  have hlt := hw.lt
  have hlt' := hw'.lt
  obtain ⟨neg, g0, l, rfl, hl, hz⟩ := hw
  obtain ⟨neg', g0', l', rfl, hl', hz'⟩ := hw'
  rw [evalFn_go _ Tryz.func49 (by unfold Tryz.f49; rfl) (by unfold Tryz.f49; decide) (Nat.le_of_ble_eq_true (by unfold Tryz.f49; rfl)) (by kernel_rfl)]
  have c3 := fun D s => cLogic n d hn 7 g g' z z' hlt hlt' D s
  rw [show ((7 : Nat) : Int) = 7 from rfl] at c3
  simp only [simB, zbo, Nat.reduceBEq, own0, ↓reduceIte, Nat.reduceEqDiff, Nat.reduceAdd, env0, List.getElem?_cons_zero, List.getElem?_cons_succ, zdv, zdw, zdx, zdy, zdz, zea, zeb, zec, ia22, ld31, zed, zee, zef, zeg, zeh, zei, zej, zek, zel, zem, zen, zeo, zep, zeq, zer, fa_0, fa_1, zes, bd_0, bd_2, zet, fd_1, zeu, Nat.zero_add, st0_3', c1, c2, Int.reduceBEq, c3, madeV_eq, ext_0, ext_1, st_Z]
  exact finish_ct _ _ 6 6 1 _ _ _ _ _ _ _ (by simp only [zfp, ↓reduceIte, Nat.reduceEqDiff]) (by simp only [zfp, ↓reduceIte, Nat.reduceEqDiff]) (by simp only [zfp, ↓reduceIte, Nat.reduceEqDiff]) rfl
theorem op8_eq : evalFn Tryz.prog cfg0 n (d+7) 49 [.tree (.int .i64 8), .tree w, .tree w'] = some (.tree (madeV (logZ 8 z z')), [[], [], []]) := by
  obtain ⟨g, c1⟩ := qOf n (d + 4) hw
  obtain ⟨g', c2⟩ := qOf n (d + 4) hw'
  have hlt := hw.lt
  have hlt' := hw'.lt
  obtain ⟨neg, g0, l, rfl, hl, hz⟩ := hw
  obtain ⟨neg', g0', l', rfl, hl', hz'⟩ := hw'
  rw [evalFn_go _ Tryz.func49 (by unfold Tryz.f49; rfl) (by unfold Tryz.f49; decide) (Nat.le_of_ble_eq_true (by unfold Tryz.f49; rfl)) (by kernel_rfl)]
  have c3 := fun D s => cLogic n d hn 8 g g' z z' hlt hlt' D s
  rw [show ((8 : Nat) : Int) = 8 from rfl] at c3
  simp only [simB, zbo, Nat.reduceBEq, own0, ↓reduceIte, Nat.reduceEqDiff, Nat.reduceAdd, env0, List.getElem?_cons_zero, List.getElem?_cons_succ, zdv, zdw, zdx, zdy, zdz, zea, zeb, zec, ia22, ld31, zed, zee, zef, zeg, zeh, zei, zej, zek, zel, zem, zen, zeo, zep, zeq, zer, fa_0, fa_1, zes, bd_0, bd_2, zet, fd_1, zeu, Nat.zero_add, st0_3', c1, c2, Int.reduceBEq, c3, madeV_eq, ext_0, ext_1, st_Z]
  exact finish_ct _ _ 6 6 1 _ _ _ _ _ _ _ (by simp only [zfp, ↓reduceIte, Nat.reduceEqDiff]) (by simp only [zfp, ↓reduceIte, Nat.reduceEqDiff]) (by simp only [zfp, ↓reduceIte, Nat.reduceEqDiff]) rfl
end
end Go.Ab

/- Op: shifts. Conditions: numbers that are shown. -/
namespace Go.Ab
open Go.Proofs
set_option maxRecDepth 100000
set_option linter.unusedSimpArgs false
theorem cShift (n d : Nat) (hn : 100000 ≤ n) (g g' : Gk) (z z' : Int) (hlt : z.natAbs < B ^ 12) (hlt' : z'.natAbs < B ^ 12) (b : Bool) (D : Nat) (s : St) : callA cfg0 (evalFn Tryz.prog cfg0 n (d+5)) D s 78 [canA g z, canA g' z', .bool b] = some (madeV (shZ z (if b = true then -z' else z')), s) :=
  callA_trees rfl (shift_eq n d hn g g' z z' hlt hlt' b)
section
variable (n d : Nat) (hn : 100000 ≤ n) {w w' : AV} {z z' : Int} (hw : IsN w z) (hw' : IsN w' z')
include hn hw hw'
set_option maxHeartbeats 8000000
theorem op9_eq : evalFn Tryz.prog cfg0 n (d+6) 49 [.tree (.int .i64 9), .tree w, .tree w'] = some (.tree (madeV (shZ z z')), [[], [], []]) := by
  obtain ⟨g, c1⟩ := qOf n (d + 3) hw
  obtain ⟨g', c2⟩ := qOf n (d + 3) hw'
  have hlt := hw.lt
  have hlt' := hw'.lt
  obtain ⟨neg, g0, l, rfl, hl, hz⟩ := hw
  obtain ⟨neg', g0', l', rfl, hl', hz'⟩ := hw'
  rw [evalFn_go _ Tryz.func49 (by unfold Tryz.f49; rfl) (by unfold Tryz.f49; decide) (Nat.le_of_ble_eq_true (by unfold Tryz.f49; rfl)) (by kernel_rfl)]
  have c3 := fun D s => cShift n d hn g g' z z' hlt hlt' false D s
  rw [if_neg (show ¬ (false = true) by decide)] at c3
  simp only [simB, zbo, Nat.reduceBEq, own0, ↓reduceIte, Nat.reduceEqDiff, Nat.reduceAdd, env0, List.getElem?_cons_zero, List.getElem?_cons_succ, zdv, zdw, zdx, zdy, zdz, zea, zeb, zec, ia22, ld31, zed, zee, zef, zeg, zeh, zei, zej, zek, zel, zem, zen, zeo, zep, zeq, zer, fa_0, fa_1, zes, bd_0, bd_2, zet, fd_1, zeu, Nat.zero_add, st0_3', c1, c2, Int.reduceBEq, c3, madeV_eq, ext_0, ext_1, st_Z]
  exact finish_ct _ _ 6 6 1 _ _ _ _ _ _ _ (by simp only [zfp, ↓reduceIte, Nat.reduceEqDiff]) (by simp only [zfp, ↓reduceIte, Nat.reduceEqDiff]) (by simp only [zfp, ↓reduceIte, Nat.reduceEqDiff]) rfl
theorem op10_eq : evalFn Tryz.prog cfg0 n (d+6) 49 [.tree (.int .i64 10), .tree w, .tree w'] = some (.tree (madeV (shZ z (-z'))), [[], [], []]) := by
  obtain ⟨g, c1⟩ := qOf n (d + 3) hw
  obtain ⟨g', c2⟩ := qOf n (d + 3) hw'
  have hlt := hw.lt
  have hlt' := hw'.lt
  obtain ⟨neg, g0, l, rfl, hl, hz⟩ := hw
  obtain ⟨neg', g0', l', rfl, hl', hz'⟩ := hw'
  rw [evalFn_go _ Tryz.func49 (by unfold Tryz.f49; rfl) (by unfold Tryz.f49; decide) (Nat.le_of_ble_eq_true (by unfold Tryz.f49; rfl)) (by kernel_rfl)]
  have c3 := fun D s => cShift n d hn g g' z z' hlt hlt' true D s
  rw [if_pos (show (true = true) from rfl)] at c3
  simp only [simB, zbo, Nat.reduceBEq, own0, ↓reduceIte, Nat.reduceEqDiff, Nat.reduceAdd, env0, List.getElem?_cons_zero, List.getElem?_cons_succ, zdv, zdw, zdx, zdy, zdz, zea, zeb, zec, ia22, ld31, zed, zee, zef, zeg, zeh, zei, zej, zek, zel, zem, zen, zeo, zep, zeq, zer, fa_0, fa_1, zes, bd_0, bd_2, zet, fd_1, zeu, Nat.zero_add, st0_3', c1, c2, Int.reduceBEq, c3, madeV_eq, ext_0, ext_1, st_Z]
  exact finish_ct _ _ 6 6 1 _ _ _ _ _ _ _ (by simp only [zfp, ↓reduceIte, Nat.reduceEqDiff]) (by simp only [zfp, ↓reduceIte, Nat.reduceEqDiff]) (by simp only [zfp, ↓reduceIte, Nat.reduceEqDiff]) rfl
end
end Go.Ab

/- The reference's Op, any op; the program's, of an op that is none. Conditions: limbs in range. -/
namespace Go.Ab
open Go.Proofs
set_option maxRecDepth 100000
set_option linter.unusedSimpArgs false

section
variable (n d : Nat) (hn : 100000 ≤ n) {w w' : AV} {z z' : Int} (hw : IsN w z) (hw' : IsN w' z')
include hn hw hw'
set_option maxHeartbeats 8000000
theorem rop6_eq : evalFn Tryz.prog cfg0 n (d+6) 51 [.tree (.int .i64 6), .tree w, .tree w'] = some (.tree (madeF (logZ 6 z z')), [[], [], []]) := by
  obtain ⟨g, c1⟩ := qRis n (d + 3) hw
  obtain ⟨g', c2⟩ := qRis n (d + 3) hw'
  have hlt := hw.lt
  have hlt' := hw'.lt
  obtain ⟨neg, g0, l, rfl, hl, hz⟩ := hw
  obtain ⟨neg', g0', l', rfl, hl', hz'⟩ := hw'
  rw [evalFn_go _ Tryz.func51 (by unfold Tryz.f51; rfl) (by unfold Tryz.f51; decide) (Nat.le_of_ble_eq_true (by unfold Tryz.f51; rfl)) (by kernel_rfl)]
  have c3 := fun D s => callA_trees (cfg := cfg0) (d := D) (s := s) (f := 85) (vs := [.int .i64 6, canA g z, canA g' z']) rfl (rlog_eq n d hn 6 (by decide) g g' z z' hlt hlt')
  simp only [simB, zbo, Nat.reduceBEq, own0, ↓reduceIte, Nat.reduceEqDiff, Nat.reduceAdd, env0, List.getElem?_cons_zero, List.getElem?_cons_succ, zdv, zdw, zdx, zdy, zdz, zea, zeb, zec, ia22, ld31, zed, zee, zef, zeg, zeh, zei, zej, zek, zel, zem, zen, zeo, zep, zeq, zer, fa_0, fa_1, zes, bd_0, bd_2, zet, fd_1, zeu, Nat.zero_add, st0_3', c1, c2, Int.reduceBEq, c3, madeF_eq, ext_0, ext_1, zeq]
  exact finish_ct _ _ 6 6 1 _ _ _ _ _ _ _ (by simp only [zfp, ↓reduceIte, Nat.reduceEqDiff]) (by simp only [zfp, ↓reduceIte, Nat.reduceEqDiff]) (by simp only [zfp, ↓reduceIte, Nat.reduceEqDiff]) rfl
theorem rop7_eq : evalFn Tryz.prog cfg0 n (d+6) 51 [.tree (.int .i64 7), .tree w, .tree w'] = some (.tree (madeF (logZ 7 z z')), [[], [], []]) := by
  obtain ⟨g, c1⟩ := qRis n (d + 3) hw
  obtain ⟨g', c2⟩ := qRis n (d + 3) hw'
  have hlt := hw.lt
  have hlt' := hw'.lt
  obtain ⟨neg, g0, l, rfl, hl, hz⟩ := hw
  obtain ⟨neg', g0', l', rfl, hl', hz'⟩ := hw'
  rw [evalFn_go _ Tryz.func51 (by unfold Tryz.f51; rfl) (by unfold Tryz.f51; decide) (Nat.le_of_ble_eq_true (by unfold Tryz.f51; rfl)) (by kernel_rfl)]
  have c3 := fun D s => callA_trees (cfg := cfg0) (d := D) (s := s) (f := 85) (vs := [.int .i64 7, canA g z, canA g' z']) rfl (rlog_eq n d hn 7 (by decide) g g' z z' hlt hlt')
  simp only [simB, zbo, Nat.reduceBEq, own0, ↓reduceIte, Nat.reduceEqDiff, Nat.reduceAdd, env0, List.getElem?_cons_zero, List.getElem?_cons_succ, zdv, zdw, zdx, zdy, zdz, zea, zeb, zec, ia22, ld31, zed, zee, zef, zeg, zeh, zei, zej, zek, zel, zem, zen, zeo, zep, zeq, zer, fa_0, fa_1, zes, bd_0, bd_2, zet, fd_1, zeu, Nat.zero_add, st0_3', c1, c2, Int.reduceBEq, c3, madeF_eq, ext_0, ext_1, zeq]
  exact finish_ct _ _ 6 6 1 _ _ _ _ _ _ _ (by simp only [zfp, ↓reduceIte, Nat.reduceEqDiff]) (by simp only [zfp, ↓reduceIte, Nat.reduceEqDiff]) (by simp only [zfp, ↓reduceIte, Nat.reduceEqDiff]) rfl
theorem rop8_eq : evalFn Tryz.prog cfg0 n (d+6) 51 [.tree (.int .i64 8), .tree w, .tree w'] = some (.tree (madeF (logZ 8 z z')), [[], [], []]) := by
  obtain ⟨g, c1⟩ := qRis n (d + 3) hw
  obtain ⟨g', c2⟩ := qRis n (d + 3) hw'
  have hlt := hw.lt
  have hlt' := hw'.lt
  obtain ⟨neg, g0, l, rfl, hl, hz⟩ := hw
  obtain ⟨neg', g0', l', rfl, hl', hz'⟩ := hw'
  rw [evalFn_go _ Tryz.func51 (by unfold Tryz.f51; rfl) (by unfold Tryz.f51; decide) (Nat.le_of_ble_eq_true (by unfold Tryz.f51; rfl)) (by kernel_rfl)]
  have c3 := fun D s => callA_trees (cfg := cfg0) (d := D) (s := s) (f := 85) (vs := [.int .i64 8, canA g z, canA g' z']) rfl (rlog_eq n d hn 8 (by decide) g g' z z' hlt hlt')
  simp only [simB, zbo, Nat.reduceBEq, own0, ↓reduceIte, Nat.reduceEqDiff, Nat.reduceAdd, env0, List.getElem?_cons_zero, List.getElem?_cons_succ, zdv, zdw, zdx, zdy, zdz, zea, zeb, zec, ia22, ld31, zed, zee, zef, zeg, zeh, zei, zej, zek, zel, zem, zen, zeo, zep, zeq, zer, fa_0, fa_1, zes, bd_0, bd_2, zet, fd_1, zeu, Nat.zero_add, st0_3', c1, c2, Int.reduceBEq, c3, madeF_eq, ext_0, ext_1, zeq]
  exact finish_ct _ _ 6 6 1 _ _ _ _ _ _ _ (by simp only [zfp, ↓reduceIte, Nat.reduceEqDiff]) (by simp only [zfp, ↓reduceIte, Nat.reduceEqDiff]) (by simp only [zfp, ↓reduceIte, Nat.reduceEqDiff]) rfl
theorem rop9_eq : evalFn Tryz.prog cfg0 n (d+6) 51 [.tree (.int .i64 9), .tree w, .tree w'] = some (.tree (madeF (shZ z z')), [[], [], []]) := by
  obtain ⟨g, c1⟩ := qRis n (d + 3) hw
  obtain ⟨g', c2⟩ := qRis n (d + 3) hw'
  have hlt := hw.lt
  have hlt' := hw'.lt
  obtain ⟨neg, g0, l, rfl, hl, hz⟩ := hw
  obtain ⟨neg', g0', l', rfl, hl', hz'⟩ := hw'
  rw [evalFn_go _ Tryz.func51 (by unfold Tryz.f51; rfl) (by unfold Tryz.f51; decide) (Nat.le_of_ble_eq_true (by unfold Tryz.f51; rfl)) (by kernel_rfl)]
  have c4 := fun D s => callA_trees (cfg := cfg0) (d := D) (s := s) (f := 86) (vs := [canA g' z']) rfl (far_eq n (d + 1) hn g' z' hlt')
  have e9 : ((9 : Int) == 9) = true := rfl
  have e10 : ((10 : Int) == 10) = true := rfl
  by_cases hs : z' < 0
  · have hc : clZ z' = -((min z'.natAbs 10001 : Nat) : Int) := by unfold clZ; (repeat' split) <;> omega
    have hc2 : clZ z' < 0 := by omega
    have hc3 : -clZ z' = ((min z'.natAbs 10001 : Nat) : Int) := by omega
    have un := un_negi (clZ z') (by omega) (by omega)
    rw [hc3] at un
    have c3 := fun D s => callA_trees (cfg := cfg0) (d := D) (s := s) (f := 87) (vs := [canA g z, .int .i64 ((min z'.natAbs 10001 : Nat) : Int), .bool false]) rfl (rdown_eq n d hn g z hlt z'.natAbs _ rfl)
    rw [show -((z'.natAbs : Nat) : Int) = z' by omega] at c3
    simp only [simB, zbo, Nat.reduceBEq, own0, ↓reduceIte, Nat.reduceEqDiff, Nat.reduceAdd, env0, List.getElem?_cons_zero, List.getElem?_cons_succ, zdv, zdw, zdx, zdy, zdz, zea, zeb, zec, ia22, ld31, zed, zee, zef, zeg, zeh, zei, zej, zek, zel, zem, zen, zeo, zep, zeq, zer, fa_0, fa_1, zes, bd_0, bd_2, zet, fd_1, zeu, Nat.zero_add, st0_3', c1, c2, Int.reduceBEq, c4, hc2, un, c3, madeF_eq, ext_0, ext_1, zeq]
    exact finish_ct _ _ 6 6 1 _ _ _ _ _ _ _ (by simp only [zfp, ↓reduceIte, Nat.reduceEqDiff]) (by simp only [zfp, ↓reduceIte, Nat.reduceEqDiff]) (by simp only [zfp, ↓reduceIte, Nat.reduceEqDiff]) rfl
  · have hc : clZ z' = ((min z'.natAbs 10001 : Nat) : Int) := by unfold clZ; (repeat' split) <;> omega
    have hc2 : ¬ clZ z' < 0 := by omega
    have c3 := fun D s => callA_trees (cfg := cfg0) (d := D) (s := s) (f := 87) (vs := [canA g z, .int .i64 ((min z'.natAbs 10001 : Nat) : Int), .bool true]) rfl (rup_eq n d hn g z hlt z'.natAbs _ rfl)
    rw [show ((z'.natAbs : Nat) : Int) = z' by omega, ← hc] at c3
    simp only [simB, zbo, Nat.reduceBEq, own0, ↓reduceIte, Nat.reduceEqDiff, Nat.reduceAdd, env0, List.getElem?_cons_zero, List.getElem?_cons_succ, zdv, zdw, zdx, zdy, zdz, zea, zeb, zec, ia22, ld31, zed, zee, zef, zeg, zeh, zei, zej, zek, zel, zem, zen, zeo, zep, zeq, zer, fa_0, fa_1, zes, bd_0, bd_2, zet, fd_1, zeu, Nat.zero_add, st0_3', c1, c2, Int.reduceBEq, c4, hc2, c3, madeF_eq, ext_0, ext_1, zeq]
    exact finish_ct _ _ 6 6 1 _ _ _ _ _ _ _ (by simp only [zfp, ↓reduceIte, Nat.reduceEqDiff]) (by simp only [zfp, ↓reduceIte, Nat.reduceEqDiff]) (by simp only [zfp, ↓reduceIte, Nat.reduceEqDiff]) rfl
theorem rop10_eq : evalFn Tryz.prog cfg0 n (d+6) 51 [.tree (.int .i64 10), .tree w, .tree w'] = some (.tree (madeF (shZ z (-z'))), [[], [], []]) := by
  obtain ⟨g, c1⟩ := qRis n (d + 3) hw
  obtain ⟨g', c2⟩ := qRis n (d + 3) hw'
  have hlt := hw.lt
  have hlt' := hw'.lt
  obtain ⟨neg, g0, l, rfl, hl, hz⟩ := hw
  obtain ⟨neg', g0', l', rfl, hl', hz'⟩ := hw'
  rw [evalFn_go _ Tryz.func51 (by unfold Tryz.f51; rfl) (by unfold Tryz.f51; decide) (Nat.le_of_ble_eq_true (by unfold Tryz.f51; rfl)) (by kernel_rfl)]
  have c4 := fun D s => callA_trees (cfg := cfg0) (d := D) (s := s) (f := 86) (vs := [canA g' z']) rfl (far_eq n (d + 1) hn g' z' hlt')
  have e9 : ((9 : Int) == 9) = true := rfl
  have e10 : ((10 : Int) == 10) = true := rfl
  by_cases hs : z' < 0
  · have hc : clZ z' = -((min z'.natAbs 10001 : Nat) : Int) := by unfold clZ; (repeat' split) <;> omega
    have hc2 : clZ z' < 0 := by omega
    have hc3 : -clZ z' = ((min z'.natAbs 10001 : Nat) : Int) := by omega
    have un := un_negi (clZ z') (by omega) (by omega)
    rw [hc3] at un
    have c3 := fun D s => callA_trees (cfg := cfg0) (d := D) (s := s) (f := 87) (vs := [canA g z, .int .i64 ((min z'.natAbs 10001 : Nat) : Int), .bool true]) rfl (rup_eq n d hn g z hlt z'.natAbs _ rfl)
    rw [show ((z'.natAbs : Nat) : Int) = -z' by omega] at c3
    simp only [simB, zbo, Nat.reduceBEq, own0, ↓reduceIte, Nat.reduceEqDiff, Nat.reduceAdd, env0, List.getElem?_cons_zero, List.getElem?_cons_succ, zdv, zdw, zdx, zdy, zdz, zea, zeb, zec, ia22, ld31, zed, zee, zef, zeg, zeh, zei, zej, zek, zel, zem, zen, zeo, zep, zeq, zer, fa_0, fa_1, zes, bd_0, bd_2, zet, fd_1, zeu, Nat.zero_add, st0_3', c1, c2, Int.reduceBEq, c4, hc2, un, c3, madeF_eq, ext_0, ext_1, zeq]
    exact finish_ct _ _ 6 6 1 _ _ _ _ _ _ _ (by simp only [zfp, ↓reduceIte, Nat.reduceEqDiff]) (by simp only [zfp, ↓reduceIte, Nat.reduceEqDiff]) (by simp only [zfp, ↓reduceIte, Nat.reduceEqDiff]) rfl
  · have hc : clZ z' = ((min z'.natAbs 10001 : Nat) : Int) := by unfold clZ; (repeat' split) <;> omega
    have hc2 : ¬ clZ z' < 0 := by omega
    have c3 := fun D s => callA_trees (cfg := cfg0) (d := D) (s := s) (f := 87) (vs := [canA g z, .int .i64 ((min z'.natAbs 10001 : Nat) : Int), .bool false]) rfl (rdown_eq n d hn g z hlt z'.natAbs _ rfl)
    rw [show -((z'.natAbs : Nat) : Int) = -z' by omega, ← hc] at c3
    simp only [simB, zbo, Nat.reduceBEq, own0, ↓reduceIte, Nat.reduceEqDiff, Nat.reduceAdd, env0, List.getElem?_cons_zero, List.getElem?_cons_succ, zdv, zdw, zdx, zdy, zdz, zea, zeb, zec, ia22, ld31, zed, zee, zef, zeg, zeh, zei, zej, zek, zel, zem, zen, zeo, zep, zeq, zer, fa_0, fa_1, zes, bd_0, bd_2, zet, fd_1, zeu, Nat.zero_add, st0_3', c1, c2, Int.reduceBEq, c4, hc2, c3, madeF_eq, ext_0, ext_1, zeq]
    exact finish_ct _ _ 6 6 1 _ _ _ _ _ _ _ (by simp only [zfp, ↓reduceIte, Nat.reduceEqDiff]) (by simp only [zfp, ↓reduceIte, Nat.reduceEqDiff]) (by simp only [zfp, ↓reduceIte, Nat.reduceEqDiff]) rfl
omit hn in
theorem rop_none (op : Int) (ho : op < 1 ∨ 10 < op) : evalFn Tryz.prog cfg0 n (d+6) 51 [.tree (.int .i64 op), .tree w, .tree w'] = some (.tree (.tup [encA false .n [], .bool false]), [[], [], []]) := by
  obtain ⟨g, c1⟩ := qRis n (d + 3) hw
  obtain ⟨g', c2⟩ := qRis n (d + 3) hw'
  have hlt := hw.lt
  have hlt' := hw'.lt
  obtain ⟨neg, g0, l, rfl, hl, hz⟩ := hw
  obtain ⟨neg', g0', l', rfl, hl', hz'⟩ := hw'
  rw [evalFn_go _ Tryz.func51 (by unfold Tryz.f51; rfl) (by unfold Tryz.f51; decide) (Nat.le_of_ble_eq_true (by unfold Tryz.f51; rfl)) (by kernel_rfl)]
  have e1 : (op == 1) = false := by rw [beq_eq_false_iff_ne]; omega
  have e2 : (op == 2) = false := by rw [beq_eq_false_iff_ne]; omega
  have e3 : (op == 3) = false := by rw [beq_eq_false_iff_ne]; omega
  have e4 : (op == 4) = false := by rw [beq_eq_false_iff_ne]; omega
  have e5 : (op == 5) = false := by rw [beq_eq_false_iff_ne]; omega
  have e6 : (op == 6) = false := by rw [beq_eq_false_iff_ne]; omega
  have e7 : (op == 7) = false := by rw [beq_eq_false_iff_ne]; omega
  have e8 : (op == 8) = false := by rw [beq_eq_false_iff_ne]; omega
  have e9 : (op == 9) = false := by rw [beq_eq_false_iff_ne]; omega
  have e10 : (op == 10) = false := by rw [beq_eq_false_iff_ne]; omega
  simp only [simB, zbo, Nat.reduceBEq, own0, ↓reduceIte, Nat.reduceEqDiff, Nat.reduceAdd, env0, List.getElem?_cons_zero, List.getElem?_cons_succ, zdv, zdw, zdx, zdy, zdz, zea, zeb, zec, ia22, ld31, zed, zee, zef, zeg, zeh, zei, zej, zek, zel, zem, zen, zeo, zep, zeq, zer, fa_0, fa_1, zes, bd_0, bd_2, zet, fd_1, zeu, Nat.zero_add, st0_3', c1, c2, e1, e2, e3, e4, e5, e6, e7, e8, e9, e10]
  exact finish_ct _ _ 6 6 1 _ _ _ _ _ _ _ (by simp only [zfp, ↓reduceIte, Nat.reduceEqDiff]) (by simp only [zfp, ↓reduceIte, Nat.reduceEqDiff]) (by simp only [zfp, ↓reduceIte, Nat.reduceEqDiff]) rfl
end
end Go.Ab

/- The statement NumRooms, abstractly. Conditions: an int. -/
namespace Go.Ab
open Go.Proofs
set_option maxRecDepth 100000
set_option linter.unusedSimpArgs false

end Go.Ab

/- Op, any op: the program's and the reference's give the same number. Conditions: numbers that are shown. -/
namespace Go.Ab
open Go.Proofs
set_option maxRecDepth 100000
set_option linter.unusedSimpArgs false

/-- What an op gives: the number, and whether there is one. -/
def opR (op a b : Int) : Int × Bool :=
  if op = 1 then mkZ (a + b) else if op = 2 then mkZ (a - b) else if op = 3 then mkZ (a * b)
  else if op = 4 then (if b = 0 then (0, false) else mkZ (a.tdiv b)) else if op = 5 then (if b = 0 then (0, false) else mkZ (a.tmod b))
  else if op = 6 then mkZ (logZ 6 a b) else if op = 7 then mkZ (logZ 7 a b) else if op = 8 then mkZ (logZ 8 a b)
  else if op = 9 then mkZ (shZ a b) else if op = 10 then mkZ (shZ a (-b)) else (0, false)
theorem opR_lt (op a b : Int) : (opR op a b).1.natAbs < B ^ 12 := by
  have h0 : (0 : Int).natAbs < B ^ 12 := Nat.pow_pos (by decide)
  unfold opR
  (repeat' split) <;> first | exact mkZ_lt _ | exact h0
def tupZ (r : Int × Bool) : AV := .tup [encZ r.1, .bool r.2]
def tupF (g : Gk) (r : Int × Bool) : AV := .tup [canA g r.1, .bool r.2]
theorem tupF_0 : (.tup [encA false .n [], .bool false] : AV) = tupF .n (0, false) := by simp [tupF, canA, digs_0]
theorem op_cases (op : Int) : op = 1 ∨ op = 2 ∨ op = 3 ∨ op = 4 ∨ op = 5 ∨ op = 6 ∨ op = 7 ∨ op = 8 ∨ op = 9 ∨ op = 10 ∨ (op < 1 ∨ 10 < op) := by omega
section
variable (n d : Nat) (hn : 100000 ≤ n) {w w' : AV} {z z' : Int} (hw : IsN w z) (hw' : IsN w' z')
include hn hw hw'
set_option maxHeartbeats 8000000
omit hn in
theorem op_none' (op : Int) (ho : op < 1 ∨ 10 < op) : evalFn Tryz.prog cfg0 n (d+6) 49 [.tree (.int .i64 op), .tree w, .tree w'] = some (.tree (.tup [encZ 0, .bool false]), [[], [], []]) := by
  obtain ⟨g, c1⟩ := qOf n (d + 3) hw
  obtain ⟨g', c2⟩ := qOf n (d + 3) hw'
  have hlt := hw.lt
  have hlt' := hw'.lt
  obtain ⟨neg, g0, l, rfl, hl, hz⟩ := hw
  obtain ⟨neg', g0', l', rfl, hl', hz'⟩ := hw'
  rw [evalFn_go _ Tryz.func49 (by unfold Tryz.f49; rfl) (by unfold Tryz.f49; decide) (Nat.le_of_ble_eq_true (by unfold Tryz.f49; rfl)) (by kernel_rfl)]
  have e1 : (op == 1) = false := by rw [beq_eq_false_iff_ne]; omega
  have e2 : (op == 2) = false := by rw [beq_eq_false_iff_ne]; omega
  have e3 : (op == 3) = false := by rw [beq_eq_false_iff_ne]; omega
  have e4 : (op == 4) = false := by rw [beq_eq_false_iff_ne]; omega
  have e5 : (op == 5) = false := by rw [beq_eq_false_iff_ne]; omega
  have e6 : (op == 6) = false := by rw [beq_eq_false_iff_ne]; omega
  have e7 : (op == 7) = false := by rw [beq_eq_false_iff_ne]; omega
  have e8 : (op == 8) = false := by rw [beq_eq_false_iff_ne]; omega
  have e9 : (op == 9) = false := by rw [beq_eq_false_iff_ne]; omega
  have e10 : (op == 10) = false := by rw [beq_eq_false_iff_ne]; omega
  simp only [simB, zbo, Nat.reduceBEq, own0, ↓reduceIte, Nat.reduceEqDiff, Nat.reduceAdd, env0, List.getElem?_cons_zero, List.getElem?_cons_succ, zdv, zdw, zdx, zdy, zdz, zea, zeb, zec, ia22, ld31, zed, zee, zef, zeg, zeh, zei, zej, zek, zel, zem, zen, zeo, zep, zeq, zer, fa_0, fa_1, zes, bd_0, bd_2, zet, fd_1, zeu, Nat.zero_add, st0_3', c1, c2, e1, e2, e3, e4, e5, e6, e7, e8, e9, e10]
  exact finish_ct _ _ 6 6 1 _ _ _ _ _ _ _ (by simp only [zfp, ↓reduceIte, Nat.reduceEqDiff]) (by simp only [zfp, ↓reduceIte, Nat.reduceEqDiff]; rw [show encR (Int.natAbs 0) = encL .n [] by simp [encR, digs_0]]; rfl) (by simp only [zfp, ↓reduceIte, Nat.reduceEqDiff]) rfl
theorem opN_any (op : Int) : evalFn Tryz.prog cfg0 n (d+7) 49 [.tree (.int .i64 op), .tree w, .tree w'] = some (.tree (tupZ (opR op z z')), [[], [], []]) := by
  rcases op_cases op with rfl | rfl | rfl | rfl | rfl | rfl | rfl | rfl | rfl | rfl | ho
  · exact op1_eq n (d + 1) hn hw hw'
  · exact op2_eq n (d + 1) hn hw hw'
  · exact op3_eq n (d + 1) hn hw hw'
  · have := op4_eq n (d + 1) hn hw hw'
    by_cases h0 : z' = 0
    · rw [if_pos h0] at this
      rw [show opR 4 z z' = (0, false) from if_pos h0]; exact this
    · rw [if_neg h0] at this
      rw [show opR 4 z z' = mkZ (z.tdiv z') from if_neg h0]; exact this
  · have := op5_eq n (d + 1) hn hw hw'
    by_cases h0 : z' = 0
    · rw [if_pos h0] at this
      rw [show opR 5 z z' = (0, false) from if_pos h0]; exact this
    · rw [if_neg h0] at this
      rw [show opR 5 z z' = mkZ (z.tmod z') from if_neg h0]; exact this
  · exact op6_eq n d hn hw hw'
  · exact op7_eq n d hn hw hw'
  · exact op8_eq n d hn hw hw'
  · exact op9_eq n (d + 1) hn hw hw'
  · exact op10_eq n (d + 1) hn hw hw'
  · have hr : opR op z z' = (0, false) := by unfold opR; (repeat' rw [if_neg (by omega)])
    rw [hr]
    exact op_none' n (d + 1) hw hw' op ho
theorem opF_any (op : Int) : ∃ g, evalFn Tryz.prog cfg0 n (d+6) 51 [.tree (.int .i64 op), .tree w, .tree w'] = some (.tree (tupF g (opR op z z')), [[], [], []]) := by
  rcases op_cases op with rfl | rfl | rfl | rfl | rfl | rfl | rfl | rfl | rfl | rfl | ho
  · exact ⟨_, rop1_eq n d hn hw hw'⟩
  · exact ⟨_, rop2_eq n d hn hw hw'⟩
  · exact ⟨_, rop3_eq n d hn hw hw'⟩
  · have := rop4_eq n d hn hw hw'
    by_cases h0 : z' = 0
    · rw [if_pos h0, tupF_0] at this
      rw [show opR 4 z z' = (0, false) from if_pos h0]; exact ⟨_, this⟩
    · rw [if_neg h0] at this
      rw [show opR 4 z z' = mkZ (z.tdiv z') from if_neg h0]; exact ⟨_, this⟩
  · have := rop5_eq n d hn hw hw'
    by_cases h0 : z' = 0
    · rw [if_pos h0, tupF_0] at this
      rw [show opR 5 z z' = (0, false) from if_pos h0]; exact ⟨_, this⟩
    · rw [if_neg h0] at this
      rw [show opR 5 z z' = mkZ (z.tmod z') from if_neg h0]; exact ⟨_, this⟩
  · exact ⟨_, rop6_eq n d hn hw hw'⟩
  · exact ⟨_, rop7_eq n d hn hw hw'⟩
  · exact ⟨_, rop8_eq n d hn hw hw'⟩
  · exact ⟨_, rop9_eq n d hn hw hw'⟩
  · exact ⟨_, rop10_eq n d hn hw hw'⟩
  · have hr : opR op z z' = (0, false) := by unfold opR; (repeat' rw [if_neg (by omega)])
    have := rop_none n d hw hw' op ho
    rw [tupF_0] at this
    rw [hr]; exact ⟨_, this⟩
end
end Go.Ab

/- The number statements' own example, by the kernel's own reckoning. No conditions. -/
namespace Go.Ab
open Go.Proofs
end Go.Ab

/- The statement NumOrders, abstractly. Conditions: limbs in range. -/
namespace Go.Ab
open Go.Proofs
set_option maxRecDepth 100000
set_option linter.unusedSimpArgs false

end Go.Ab

/- The statement NumAll, abstractly. Conditions: limbs in range, an int in range. -/
namespace Go.Ab
open Go.Proofs
set_option maxRecDepth 100000
set_option linter.unusedSimpArgs false

end Go.Ab

/- Numbers as texts. Pure mathematics. -/
namespace Go.Ab
end Go.Ab

/- Strings: what the library's functions upon them give. Conditions: lengths in range. -/
namespace Go.Ab
open Go.Proofs
set_option maxRecDepth 100000
set_option linter.unusedSimpArgs false

end Go.Ab

/- strings.Trim by the digits. Conditions: lengths in range. -/
namespace Go.Ab
open Go.Proofs
set_option maxRecDepth 100000
set_option linter.unusedSimpArgs false

end Go.Ab

/- The statement NumInts, abstractly. Conditions: two ints. -/
namespace Go.Ab
open Go.Proofs
set_option maxRecDepth 100000
set_option linter.unusedSimpArgs false

section
variable (a b : Int)
variable (ha : a.natAbs ≤ 2147483648) (hb : b.natAbs ≤ 2147483648)
include ha hb
end
end Go.Ab

/- A number's text. Conditions: a number that is shown. -/
namespace Go.Ab
open Go.Proofs
set_option maxRecDepth 100000
set_option linter.unusedSimpArgs false

/-! ### Types -/
theorem esz9 : esz Tryz.prog 9 = some 1 := by kernel_rfl
theorem tk66 : tkOf Tryz.prog 78 = .sl 5 := by kernel_rfl
theorem esz5 : esz Tryz.prog 5 = some 1 := by kernel_rfl
theorem conv3_5 (s : St) (x : Nat) (h : x < 256) : convA Tryz.prog 3 5 s (.int .i64 (x : Int)) = some (.int .u8 (x : Int)) := by
  have e : IntKind.u8.wrap (x : Int) = (x : Int) := by
    simp [IntKind.wrap, IntKind.bits, IntKind.signed]; omega
  have t3 : tkOf Tryz.prog 3 = .int .i64 := by kernel_rfl
  simp only [convA, t3, tk5, e]
/-! ### Join -/
end Go.Ab

/- A number's text: the walk. Conditions: a number that is shown. -/
namespace Go.Ab
open Go.Proofs
set_option maxRecDepth 100000
set_option linter.unusedSimpArgs false

end Go.Ab

/- relictref03.List, relictlaw00.Proper; rows of ints that grow. Conditions: lengths in range. -/
namespace Go.Ab
open Go.Proofs
set_option maxRecDepth 100000
set_option linter.unusedSimpArgs false

def duo26 (x y : AV) : Option AV := (fillA (fun i => some (i * 6, 6)) (rep 2 [.int .i64 0, .bool false, .sl [] 0 .nil, .str [], .int .i64 0, .sl [] 0 .nil]) [(0, x), (1, y)]).map (.sl · 2 .tight)
theorem duo26_agg (a b c d e f a' b' c' d' e' f' : AV) : duo26 (.agg [a, b, c, d, e, f]) (.agg [a', b', c', d', e', f']) = some (.sl [a, b, c, d, e, f, a', b', c', d', e', f'] 2 .tight) := rfl
theorem opA_duo26 (call : FuncId → List Arg → Option Out) (q : Bool) (d : Option Tmp) (ty : TypeId) (pos : String) (af : Array Edge) (g : Option (Nat × Bool)) (t : Nat) (env : Env) (s : St) (x y : Operand) :
    opA Tryz.prog cfg0 call q ⟨d, .buildSlice 22 2 #[(0, x), (1, y)], ty, pos, af, g⟩ t env s = (duo26 (ev env x) (ev env y)).map (·, s) := by
  rw [opA_bs]
  simp only [tkTk, eszT, zeroT, Option.bind_some, List.map_cons, List.map_nil]
  rfl
theorem duo26_T (a b : T) : duo26 (.agg (cellsT a)) (.agg (cellsT b)) = some (.sl (cellsK [a, b]) 2 .tight) := by
  obtain ⟨k, b1, lg, l, s, m, kg, ks⟩ := a
  obtain ⟨k', b2, lg', l', s', m', kg', ks'⟩ := b
  simp only [cellsT, cellsK, List.append_nil, List.cons_append, List.nil_append]
  exact duo26_agg _ _ _ _ _ _ _ _ _ _ _ _
theorem bdT_cons (a b : T) : buildA Tryz.prog 29 [(0, .int .i64 4), (4, .sl (cellsK [a, b]) 2 .tight)] = some (.agg (cellsT (consT a b))) := bdT_4 4 _ _ .t
set_option maxHeartbeats 4000000 in
theorem rList_eq (n d : Nat) (ks : List T) (g : Grip) (t : T) (hn : ks.length < n) (hl : ks.length ≤ 1000000) : evalFn Tryz.prog cfg0 n (d+1) 16 [.tree (.sl (cellsK ks) ks.length g), .tree (encT t)] = some (.tree (encT (listT ks t)), [[], []]) := by
  rw [evalFn_go _ Tryz.func16 (by unfold Tryz.f16; rfl) (by unfold Tryz.f16; decide) (Nat.le_of_ble_eq_true (by unfold Tryz.f16; rfl)) (by kernel_rfl)]
  have f0 := i_sub Tryz.prog 3 (ks.length : Int) 1 (by omega) (by omega)
  simp only [simB, zbo, Nat.reduceBEq, own0, ↓reduceIte, Nat.reduceEqDiff, Nat.reduceAdd, env0, List.getElem?_cons_zero, List.getElem?_cons_succ, zdv, zdw, zdx, zdy, zdz, zea, zeb, zec, ia22, ld31, zed, zee, zef, zeg, zeh, zei, zej, zek, zel, zem, zen, zeo, zep, zeq, zer, fa_0, fa_1, zes, bd_0, bd_2, zet, fd_1, zeu, Nat.zero_add, zeroT, encT, ldT_u, st_Tt, stT_6, lenTk, f0, den_loop]
  refine loop_ends (X := Nat) (fun j env s => env 0 = .sl (cellsK ks) ks.length g ∧ env 4 = .ptr 4 1 0 ∧ env 5 = .ptr 5 1 0 ∧ env 6 = .int .i64 ((j : Int) - 1) ∧ s 4 = ⟨1, .buf [.int .i64 0, .bool false, .sl [] 0 .nil, .str [], .int .i64 0, .sl [] 0 .nil]⟩ ∧ s 5 = ⟨1, .buf (cellsT (listT (ks.drop j) t))⟩ ∧ j ≤ ks.length) (fun j => j) (fun _ => (.tree (encT (listT ks t)), [[], []])) ?_ n ks.length _ _ (by omega) ⟨(by first | (simp only [zfp, ↓reduceIte, Nat.reduceEqDiff, env0, List.getElem?_cons_zero]; done) | (simp only [zfp, ↓reduceIte, Nat.reduceEqDiff, env0, List.getElem?_cons_zero]; rfl)), (by first | (simp only [zfp, ↓reduceIte, Nat.reduceEqDiff]; done) | (simp only [zfp, ↓reduceIte, Nat.reduceEqDiff]; rfl)), (by first | (simp only [zfp, ↓reduceIte, Nat.reduceEqDiff]; done) | (simp only [zfp, ↓reduceIte, Nat.reduceEqDiff]; rfl)), (by first | (simp only [zfp, ↓reduceIte, Nat.reduceEqDiff]; done) | (simp only [zfp, ↓reduceIte, Nat.reduceEqDiff]; rfl)), (by first | (simp only [zfp, ↓reduceIte, Nat.reduceEqDiff]; done) | (simp only [zfp, ↓reduceIte, Nat.reduceEqDiff]; rfl)), by rw [List.drop_length]; exact (by first | (simp only [zfp, ↓reduceIte, Nat.reduceEqDiff]; done) | (simp only [zfp, ↓reduceIte, Nat.reduceEqDiff]; rfl)), Nat.le_refl _⟩
  intro rr j hr ih env st ⟨e0, e4, e5, e6, j4, j5, hj⟩
  cases j with
  | zero =>
    have q1 : ¬ (((0 : Nat) : Int) - 1 ≥ 0) := by omega
    rw [List.drop_zero] at j5
    simp only [simB, zbo, Nat.reduceBEq, own0, ↓reduceIte, Nat.reduceEqDiff, Nat.reduceAdd, zdv, zdw, zdx, zdy, zdz, zea, zeb, zec, ia22, ld31, zed, zee, zef, zeg, zeh, zei, zej, zek, zel, zem, zen, zeo, zep, zeq, zer, fa_0, fa_1, zes, bd_0, bd_2, zet, fd_1, zeu, Nat.zero_add, e0, e4, e5, e6, j4, j5, q1, ldT_u, st_Tt, stT_6]
    exact finish_cT _ _ _ _ _ (listT ks t) _ _ _ (by first | (simp only [zfp, ↓reduceIte, Nat.reduceEqDiff, e4]; done) | (simp only [zfp, ↓reduceIte, Nat.reduceEqDiff, e4]; rfl)) (by first | (simp only [zfp, ↓reduceIte, Nat.reduceEqDiff]; done) | (simp only [zfp, ↓reduceIte, Nat.reduceEqDiff]; rfl)) rfl
  | succ i =>
    have e6 : env 6 = .int .i64 (i : Int) := by rw [e6]; congr 1; omega
    have q1 : (i : Int) ≥ 0 := by omega
    have hil : i < ks.length := by omega
    have f5 := i_sub Tryz.prog 3 (i : Int) 1 (by omega) (by omega)
    have hd : ks.drop i = ks[i] :: ks.drop (i + 1) := List.drop_eq_getElem_cons hil
    have ia := fun st => ia_K st ks g i hil
    rw [hd] at ia
    have ld := fun st => ld_K st ks[i] (ks.drop (i + 1))
    simp only [encT] at ld
    simp only [simB, zbo, Nat.reduceBEq, own0, ↓reduceIte, Nat.reduceEqDiff, Nat.reduceAdd, zdv, zdw, zdx, zdy, zdz, zea, zeb, zec, ia22, ld31, zed, zee, zef, zeg, zeh, zei, zej, zek, zel, zem, zen, zeo, zep, zeq, zer, fa_0, fa_1, zes, bd_0, bd_2, zet, fd_1, zeu, Nat.zero_add, e0, e4, e5, e6, j4, j5, q1, ia, ld, ldT_u, opA_duo26, duo26_T, bdT_cons, st_Tt, stT_u, f5]
    exact ih i _ _ (by omega) rfl ⟨(by first | (simp only [zfp, ↓reduceIte, Nat.reduceEqDiff, e0]; done) | (simp only [zfp, ↓reduceIte, Nat.reduceEqDiff, e0]; rfl)), (by first | (simp only [zfp, ↓reduceIte, Nat.reduceEqDiff, e4]; done) | (simp only [zfp, ↓reduceIte, Nat.reduceEqDiff, e4]; rfl)), (by first | (simp only [zfp, ↓reduceIte, Nat.reduceEqDiff, e5]; done) | (simp only [zfp, ↓reduceIte, Nat.reduceEqDiff, e5]; rfl)), (by first | (simp only [zfp, ↓reduceIte, Nat.reduceEqDiff]; done) | (simp only [zfp, ↓reduceIte, Nat.reduceEqDiff]; rfl)), (by first | (simp only [zfp, ↓reduceIte, Nat.reduceEqDiff, j4]; done) | (simp only [zfp, ↓reduceIte, Nat.reduceEqDiff, j4]; rfl)), by rw [hd]; exact (by first | (simp only [zfp, ↓reduceIte, Nat.reduceEqDiff]; done) | (simp only [zfp, ↓reduceIte, Nat.reduceEqDiff]; rfl)), by omega⟩
/-! ### Rows of ints -/
theorem tkI : tkOf Tryz.prog 56 = .sl 3 := by kernel_rfl
theorem lenInts (s : St) (xs : List AV) (m : Nat) (g : Grip) : lenA Tryz.prog 56 s (.sl xs m g) = some (.int .i64 (m : Int)) := by simp only [lenA, tkI]
theorem iaInts (s : St) (xs : List AV) (m : Nat) (g : Grip) (i : Nat) (h : i < m) : indexAddrA Tryz.prog 56 s (.sl xs m g) (.int .i64 (i : Int)) = some (.rptr (xs.drop i)) := by
  simp only [indexAddrA, tkI, eszTi, Option.bind_some, Int.toNat_natCast, Nat.mul_one]
  rw [if_pos ⟨by omega, by omega⟩]
def ApI (s : St) (d : Nat) (x : AV) (us : List Int) : Prop := (us = [] ∧ x = .sl [] 0 .nil) ∨ (us ≠ [] ∧ ∃ t, x = .sl (intsA us) us.length (.tok d t) ∧ s d = ⟨t, .tok 1⟩)
theorem byI : decide (byOf Tryz.prog 3 ≤ 200) = true := by kernel_rfl
theorem zlI : (zeroOf Tryz.prog 3).map List.length = some 1 := by kernel_rfl
theorem intsA_len (us : List Int) : (intsA us).length = us.length := List.length_map _
theorem ApI.push {s : St} {d : Nat} {x : AV} {us : List Int} (h : ApI s d x us) (hl : us.length ≤ 1000000) (v : Int) :
    ∃ x' s', appendA Tryz.prog #[56, 56] d s x (.sl [.int .i64 v] 1 .tight) = some (x', s') ∧ ApI s' d x' (us ++ [v]) ∧ ∀ q, q ≠ d → s' q = s q := by
  have hb := of_decide_eq_true byI
  have hk : intsA (us ++ [v]) = intsA us ++ [.int .i64 v] := by simp [intsA]
  have hm : ∀ s, moreA Tryz.prog 3 1 (some 56) s (.sl [.int .i64 v] 1 .tight) = some ([.int .i64 v], 1) := fun s => by
    simp only [moreA, Option.map_some, tkI, List.length_cons, List.length_nil, Nat.one_mul, ↓reduceIte]
  have hc : (us.length + 1) * byOf Tryz.prog 3 ≤ 140737488355328 ∧ us.length + 1 ≤ 9223372036854775807 := by
    have : (us.length + 1) * byOf Tryz.prog 3 ≤ 1000001 * 200 := Nat.mul_le_mul (by omega) hb
    omega
  rcases h with ⟨rfl, rfl⟩ | ⟨_, t, rfl, hs⟩
  · refine ⟨_, upd s d ⟨(s d).t + 1, .tok 1⟩, ?_, .inr ⟨by simp, (s d).t + 1, rfl, upd_same _ _ _⟩, fun q hq => upd_ne _ _ hq⟩
    simp only [appendA, List.getElem?_toArray, List.getElem?_cons_zero, List.getElem?_cons_succ, Option.map_some, tkI, eszTi, Option.bind_some, hm, baseA, List.length_nil, Nat.zero_mul, ↓reduceIte, zlI, and_true]
    rw [if_pos (by simpa using hc)]
    simp [intsA]
  · refine ⟨_, upd (upd s d ⟨t, .dead⟩) d ⟨t + 1, .tok 1⟩, ?_, .inr ⟨by simp, t + 1, rfl, upd_same _ _ _⟩, fun q hq => (upd_ne _ _ hq).trans (upd_ne _ _ hq)⟩
    simp only [appendA, List.getElem?_toArray, List.getElem?_cons_zero, List.getElem?_cons_succ, Option.map_some, tkI, eszTi, Option.bind_some, hm, baseA, hs, intsA_len, Nat.mul_one, and_self, ↓reduceIte, zlI, and_true]
    rw [if_pos hc]
    simp only [upd_same, List.length_append, List.length_cons, List.length_nil, Nat.zero_add, hk]
def giOf (us : List Int) : Gk := if us = [] then .n else .l
theorem ApI.lent {s : St} {d : Nat} {x : AV} {us : List Int} (h : ApI s d x us) : isLent x = true ∧ loosen x = .sl (intsA us) us.length (gr (giOf us)) ∧ (isTree x = true → x = .sl (intsA us) us.length (gr (giOf us))) := by
  rcases h with ⟨rfl, rfl⟩ | ⟨hu, t, rfl, _⟩
  · exact ⟨rfl, rfl, fun _ => rfl⟩
  · exact ⟨rfl, by simp only [loosen, giOf, if_neg hu, gr], fun h => nomatch h⟩
theorem ApI.len {s : St} {d : Nat} {x : AV} {us : List Int} (h : ApI s d x us) (st : St) : lenA Tryz.prog 56 st x = some (.int .i64 (us.length : Int)) := by
  rcases h with ⟨rfl, rfl⟩ | ⟨hu, t, rfl, _⟩ <;> simp only [lenA, tkI] <;> rfl
set_option maxHeartbeats 4000000 in
theorem proper_eq (n d : Nat) (hn : 100000 ≤ n) (xs : List Int) (g : Grip) (hx : ∀ x ∈ xs, I64 x) : evalFn Tryz.prog cfg0 n (d+5) 32 [.tree (.sl (intsA xs) xs.length g)] = some (.tree (encT (listT ((xs.take 60).map intT) nilT')), [[]]) := by
  rw [evalFn_go _ Tryz.func32 (by unfold Tryz.f32; rfl) (by unfold Tryz.f32; decide) (Nat.le_of_ble_eq_true (by unfold Tryz.f32; rfl)) (by kernel_rfl)]
  have lx := fun st => lenInts st (intsA xs) xs.length g
  have ix := fun st i h => iaInts st (intsA xs) xs.length g i h
  simp only [simB, zbo, Nat.reduceBEq, own0, ↓reduceIte, Nat.reduceEqDiff, Nat.reduceAdd, env0, List.getElem?_cons_zero, List.getElem?_cons_succ, zdv, zdw, zdx, zdy, zdz, zea, zeb, zec, ia22, ld31, zed, zee, zef, zeg, zeh, zei, zej, zek, zel, zem, zen, zeo, zep, zeq, zer, fa_0, fa_1, zes, bd_0, bd_2, zet, fd_1, zeu, Nat.zero_add, zeroT, den_loop]
  refine loop_ends (X := Nat) (fun i env st => env 0 = .sl (intsA xs) xs.length g ∧ env 2 = .ptr 2 1 0 ∧ env 4 = .int .i64 (i : Int) ∧ Ap st 22 (env 3) ((xs.take i).map intT) ∧ st 2 = ⟨1, .buf [.int .i64 0, .bool false, .sl [] 0 .nil, .str [], .int .i64 0, .sl [] 0 .nil]⟩ ∧ i ≤ 60 ∧ i ≤ xs.length) (fun i => 60 - i) (fun _ => (.tree (encT (listT ((xs.take 60).map intT) nilT')), [[]])) ?_ n 0 _ _ (by omega) ⟨(by first | (simp only [zfp, ↓reduceIte, Nat.reduceEqDiff, env0, List.getElem?_cons_zero]; done) | (simp only [zfp, ↓reduceIte, Nat.reduceEqDiff, env0, List.getElem?_cons_zero]; rfl)), (by first | (simp only [zfp, ↓reduceIte, Nat.reduceEqDiff]; done) | (simp only [zfp, ↓reduceIte, Nat.reduceEqDiff]; rfl)), (by first | (simp only [zfp, ↓reduceIte, Nat.reduceEqDiff]; done) | (simp only [zfp, ↓reduceIte, Nat.reduceEqDiff]; rfl)), .inl ⟨rfl, (by first | (simp only [zfp, ↓reduceIte, Nat.reduceEqDiff]; done) | (simp only [zfp, ↓reduceIte, Nat.reduceEqDiff]; rfl))⟩, (by first | (simp only [zfp, ↓reduceIte, Nat.reduceEqDiff]; done) | (simp only [zfp, ↓reduceIte, Nat.reduceEqDiff]; rfl)), by omega, Nat.zero_le _⟩
  intro rr i hr ih env st ⟨e0, e2, e4, ap, j2, hi, hi2⟩
  by_cases hlt : i < xs.length ∧ i < 60
  · obtain ⟨hlt, h60⟩ := hlt
    have q1 : (i : Int) < (xs.length : Int) := by omega
    have q2 : (i : Int) < 60 := by omega
    have c1 := fun D st => callA_trees (cfg := cfg0) (d := D) (s := st) (f := 54) (vs := [.int .i64 xs[i]]) rfl (rInt_eq n d hn xs[i] (hx _ (List.getElem_mem hlt)))
    simp only [encT] at c1
    obtain ⟨x', s', a1, a2, a3⟩ := ap.push (by simp; omega) (intT xs[i])
    have f5 := i_add Tryz.prog 3 (i : Int) 1 (by omega) (by omega)
    have ld := fun st => ldInts xs i hlt st
    have hm : (xs.take (i + 1)).map intT = (xs.take i).map intT ++ [intT xs[i]] := by rw [List.take_succ_eq_append_getElem hlt, List.map_append]; rfl
    simp only [simB, zbo, Nat.reduceBEq, own0, ↓reduceIte, Nat.reduceEqDiff, Nat.reduceAdd, zdv, zdw, zdx, zdy, zdz, zea, zeb, zec, ia22, ld31, zed, zee, zef, zeg, zeh, zei, zej, zek, zel, zem, zen, zeo, zep, zeq, zer, fa_0, fa_1, zes, bd_0, bd_2, zet, fd_1, zeu, Nat.zero_add, e0, e2, e4, lx, q1, q2, ix _ i hlt, ld, c1, opA_one26, one26_T, a1, f5]
    exact ih (i + 1) _ _ (by omega) rfl ⟨(by first | (simp only [zfp, ↓reduceIte, Nat.reduceEqDiff, e0]; done) | (simp only [zfp, ↓reduceIte, Nat.reduceEqDiff, e0]; rfl)), (by first | (simp only [zfp, ↓reduceIte, Nat.reduceEqDiff, e2]; done) | (simp only [zfp, ↓reduceIte, Nat.reduceEqDiff, e2]; rfl)), (by first | (simp only [zfp, ↓reduceIte, Nat.reduceEqDiff]; done) | (simp only [zfp, ↓reduceIte, Nat.reduceEqDiff]; rfl)), by rw [hm]; exact a2, by rw [a3 2 (by decide)]; exact j2, by omega, by omega⟩
  have hie : xs.take i = xs.take 60 := by
    by_cases h60 : i = 60
    · rw [h60]
    · rw [List.take_of_length_le (by omega), List.take_of_length_le (by omega)]
  rw [hie] at ap
  obtain ⟨hl1, hl2⟩ := ap.lent
  have hlen : ((xs.take 60).map intT).length ≤ 60 := by simp; omega
  have cl := fun D st => callA_loose (call := evalFn Tryz.prog cfg0 n (d+4)) (d := D) (s := st) (f := 16) (vs := [env 3, encT nilT']) (vs' := [.sl (cellsK ((xs.take 60).map intT)) ((xs.take 60).map intT).length (gr (kgOf ((xs.take 60).map intT))), encT nilT']) (by simp only [List.all_cons, hl1, encT, lent_T, List.all_nil, Bool.and_self]) (by simp only [List.map_cons, hl2]; rfl) (rList_eq n (d+3) ((xs.take 60).map intT) _ nilT' (by omega) (by omega))
  simp only [encT] at cl
  by_cases hlt1 : i < xs.length
  · have q1 : (i : Int) < (xs.length : Int) := by omega
    have q2 : ¬ (i : Int) < 60 := by omega
    simp only [simB, zbo, Nat.reduceBEq, own0, ↓reduceIte, Nat.reduceEqDiff, Nat.reduceAdd, zdv, zdw, zdx, zdy, zdz, zea, zeb, zec, ia22, ld31, zed, zee, zef, zeg, zeh, zei, zej, zek, zel, zem, zen, zeo, zep, zeq, zer, fa_0, fa_1, zes, bd_0, bd_2, zet, fd_1, zeu, Nat.zero_add, e0, e2, e4, lx, j2, q1, q2, bdN3, cl, st_Tt, stT_6]
    exact finish_cT _ _ _ _ _ (listT ((xs.take 60).map intT) nilT') _ _ _ (by first | (simp only [zfp, ↓reduceIte, Nat.reduceEqDiff, e2]; done) | (simp only [zfp, ↓reduceIte, Nat.reduceEqDiff, e2]; rfl)) (by first | (simp only [zfp, ↓reduceIte, Nat.reduceEqDiff]; done) | (simp only [zfp, ↓reduceIte, Nat.reduceEqDiff]; rfl)) rfl
  · have q1 : ¬ (i : Int) < (xs.length : Int) := by omega
    simp only [simB, zbo, Nat.reduceBEq, own0, ↓reduceIte, Nat.reduceEqDiff, Nat.reduceAdd, zdv, zdw, zdx, zdy, zdz, zea, zeb, zec, ia22, ld31, zed, zee, zef, zeg, zeh, zei, zej, zek, zel, zem, zen, zeo, zep, zeq, zer, fa_0, fa_1, zes, bd_0, bd_2, zet, fd_1, zeu, Nat.zero_add, e0, e2, e4, lx, j2, q1, bdN3, cl, st_Tt, stT_6]
    exact finish_cT _ _ _ _ _ (listT ((xs.take 60).map intT) nilT') _ _ _ (by first | (simp only [zfp, ↓reduceIte, Nat.reduceEqDiff, e2]; done) | (simp only [zfp, ↓reduceIte, Nat.reduceEqDiff, e2]; rfl)) (by first | (simp only [zfp, ↓reduceIte, Nat.reduceEqDiff]; done) | (simp only [zfp, ↓reduceIte, Nat.reduceEqDiff]; rfl)) rfl
end Go.Ab

/- bif.Call by these names: integer_to_list, atom_to_list, length. Conditions: so many nodes at most. -/
namespace Go.Ab
open Go.Proofs
set_option maxRecDepth 100000
set_option linter.unusedSimpArgs false

/-! ### What is thrown, as a struct -/
theorem finish_T2 (k : Bool) (xs : List Arg) (a p e : Nat) (u : T) (t : Nat) (v : Bool) (env : Env) (s : St) (os : List (List AV)) (ha : env a = .ptr p e 0) (hs : s p = ⟨e, .buf (cellsT u)⟩) (hv : env t = .bool v) (ho : outsA s 0 xs = some os) :
    finishP Tryz.prog k xs #[.cell a 29, .tmp t] env s = some (.tree (.tup [encT u, .bool v]), os) := by
  have hl : loadA Tryz.prog 29 s (env a) = some (.agg (cellsT u)) := by rw [ha, zem, hs, ldT_u, if_pos rfl]
  simp [finishP, isTmpR, rvA, hl, hv, settleL, settle, ho, encT]
theorem one26_K1 (e : T) : one26 (.agg (cellsT e)) = some (.sl (cellsK [e]) 1 .tight) := one26_K e
end Go.Ab

/- The statement TermLists. Conditions: limbs in range; texts in range. -/
namespace Go.Ab
open Go.Proofs
set_option maxRecDepth 100000
set_option linter.unusedSimpArgs false

section
variable (R : Nat) (hR : 1000000 ≤ R) (hR2 : R ≤ 9223372036854775808) (ks : List T) (hl : ks.length ≤ 60) (n : Int)
include hR hl
end
end Go.Ab

/- What BifTexts compares: lists of a text's bytes. Conditions: lengths in range. -/
namespace Go.Ab
open Go.Proofs
set_option maxRecDepth 100000
set_option linter.unusedSimpArgs false

theorem ApI.proper {s : St} {d : Nat} {x : AV} {us : List Int} (h : ApI s d x us) (n D : Nat) (hn : 100000 ≤ n) (hx : ∀ x ∈ us, I64 x) : callQ (evalFn Tryz.prog cfg0 n (D+5)) 32 [x] = some (encT (listT ((us.take 60).map intT) nilT')) := by
  rcases h with ⟨rfl, rfl⟩ | ⟨_, t, rfl, _⟩
  · exact callQ_trees (vs := [.sl [] 0 .nil]) rfl (proper_eq n D hn [] .nil (by simp))
  · exact callQ_loose (vs := [.sl (intsA us) us.length (.tok d t)]) rfl rfl rfl (proper_eq n D hn us .loose hx)
def isOkB : Option Out → Bool
  | some (.tree (.bool true), []) => true
  | _ => false
theorem isOkB_eq {o : Option Out} (h : isOkB o = true) : o = some (.tree (.bool true), []) := by
  unfold isOkB at h
  split at h
  · rfl
  · cases h
theorem awakeB_eq : evalFn Tryz.prog cfg0 100000 60 7 [] = some (.tree (.bool true), []) := isOkB_eq (by kernel_rfl)
end Go.Ab

/- relictref03.Items of a list, relictref03.Many. Conditions: so many nodes at most. -/
namespace Go.Ab
open Go.Proofs
set_option maxRecDepth 100000
set_option linter.unusedSimpArgs false

end Go.Ab

/- Rows of terms in cells that are written: one taken, one put; turned round step by step. Conditions: places in range. -/
namespace Go.Ab
open Go.Proofs
set_option linter.unusedSimpArgs false

end Go.Ab

/- slices.Reverse of a row that is written (CFG1). Conditions: lengths in range. -/
namespace Go.Ab
open Go.Proofs
set_option maxRecDepth 100000
set_option linter.unusedSimpArgs false

end Go.Ab

/- The terms of a list, that stay writable (CFG1): term.Items. Conditions: lengths in range. -/
namespace Go.Ab
open Go.Proofs
set_option maxRecDepth 100000
set_option linter.unusedSimpArgs false

theorem roomJ (n : Nat) (h : n ≤ 1000001) : n * byOf Tryz.prog 29 ≤ 140737488355328 ∧ n ≤ 9223372036854775807 := by
  have hb := of_decide_eq_true by28
  have : n * byOf Tryz.prog 29 ≤ 1000001 * 200 := Nat.mul_le_mul h hb
  omega
/-! ### A row that is written, by appends -/
def ApO (s : St) (d : Nat) (x : AV) (us : List T) : Prop := (us = [] ∧ x = .sl [] 0 .nil) ∨ (us ≠ [] ∧ ∃ t, x = .own d t 0 us.length 6 ∧ s d = ⟨t, .buf (cellsK us)⟩)
theorem ApO.push {s : St} {d : Nat} {x : AV} {us : List T} (h : ApO s d x us) (hl : us.length ≤ 1000000) (v : T) :
    ∃ x' s', appendO Tryz.prog #[22, 22] d s x (.sl (cellsT v) 1 .tight) = some (x', s') ∧ ApO s' d x' (us ++ [v]) ∧ ∀ q, q ≠ d → s' q = s q := by
  have hm : moreA Tryz.prog 29 6 (some 22) s (.sl (cellsT v) 1 .tight) = some (cellsT v, 1) := by
    simp only [moreA, Option.map_some, tkTk, cellsT_len, Nat.one_mul, ↓reduceIte]
  have hk : cellsK (us ++ [v]) = cellsK us ++ cellsT v := by rw [cellsK_append]; simp only [cellsK, List.append_nil]
  have h1 : (us.length + 1) * byOf Tryz.prog 29 ≤ 140737488355328 ∧ us.length + 1 ≤ 9223372036854775807 := roomJ (us.length + 1) (by omega)
  rcases h with ⟨rfl, rfl⟩ | ⟨hu, t, rfl, hs⟩
  · refine ⟨.own d ((s d).t + 1) 0 1 6, upd s d ⟨(s d).t + 1, .buf (cellsT v)⟩, ?_, .inr ⟨by simp, (s d).t + 1, rfl, by rw [upd_same]; simp [cellsK]⟩, fun q hq => upd_ne _ _ hq⟩
    have h2 : 1 * byOf Tryz.prog 29 ≤ 140737488355328 := by simpa using h1.1
    simp only [appendO, List.getElem?_toArray, List.getElem?_cons_zero, List.getElem?_cons_succ, Option.map_some, tkTk, eszT, Option.bind_some, hm, zl28, ↓reduceIte, Nat.le_refl, true_and, true_or]
    rw [if_pos ⟨h2, by decide⟩]
  · refine ⟨.own d ((s d).t + 1) 0 (us.length + 1) 6, upd (upd s d ⟨t, .dead⟩) d ⟨(s d).t + 1, .buf (cellsK us ++ cellsT v)⟩, ?_, .inr ⟨by simp, (s d).t + 1, by simp, by rw [upd_same, hk]⟩, fun q hq => by rw [upd_ne _ _ hq, upd_ne _ _ hq]⟩
    simp only [appendO, List.getElem?_toArray, List.getElem?_cons_zero, List.getElem?_cons_succ, Option.map_some, tkTk, eszT, Option.bind_some, hm, zl28, ↓reduceIte, hs, cellsK_len, true_and]
    rw [if_pos h1]

end Go.Ab

/- bif.one of reverse, run with a list's terms writable (CFG1). Condition: a proper list, its length in range. -/
namespace Go.Ab
open Go.Proofs
set_option maxRecDepth 100000
set_option linter.unusedSimpArgs false

section
variable {cfg : Cfg} {call : FuncId → List Arg → Option Out}
end
end Go.Ab

/- relictref03.Cmp, walked. Conditions: terms that may be. -/
namespace Go.Ab
open Go.Proofs
set_option maxRecDepth 100000
set_option linter.unusedSimpArgs false

end Go.Ab

/- bif.two: max, min, member; bif.Call of two arguments. Conditions: terms that may be. -/
namespace Go.Ab
open Go.Proofs
set_option maxRecDepth 100000
set_option linter.unusedSimpArgs false

def atomT (s : List UInt8) : T := .mk 2 false .n [] s 0 .n []
theorem bdT_at (s : List UInt8) : buildA Tryz.prog 29 [(0, .int .i64 2), (2, .str s)] = some (.agg (cellsT (atomT s))) := bdT_2 2 s
theorem atom_eq (n d : Nat) (s : List UInt8) : evalFn Tryz.prog cfg0 n (d+1) 29 [.tree (.str s)] = some (.tree (encT (atomT s)), [[]]) := by
  rw [evalFn_go _ Tryz.func29 (by unfold Tryz.f29; rfl) (by unfold Tryz.f29; decide) (Nat.le_of_ble_eq_true (by unfold Tryz.f29; rfl)) (by kernel_rfl)]
  simp only [simB, zbo, Nat.reduceBEq, own0, ↓reduceIte, Nat.reduceEqDiff, Nat.reduceAdd, env0, List.getElem?_cons_zero, List.getElem?_cons_succ, zdv, zdw, zdx, zdy, zdz, zea, zeb, zec, ia22, ld31, zed, zee, zef, zeg, zeh, zei, zej, zek, zel, zem, zen, zeo, zep, zeq, zer, fa_0, fa_1, zes, bd_0, bd_2, zet, fd_1, zeu, Nat.zero_add, zeroT, bdT_at, st_Tt, stT_6]
  exact finish_cT _ _ _ _ _ (atomT s) _ _ _ (by first | (simp only [zfp, ↓reduceIte, Nat.reduceEqDiff]; done) | (simp only [zfp, ↓reduceIte, Nat.reduceEqDiff]; rfl)) (by first | (simp only [zfp, ↓reduceIte, Nat.reduceEqDiff]; done) | (simp only [zfp, ↓reduceIte, Nat.reduceEqDiff]; rfl)) rfl
end Go.Ab

/- bif.Call of reverse, ++, list_to_tuple, tuple_to_list. Conditions: so many nodes at most. -/
namespace Go.Ab
open Go.Proofs
set_option maxRecDepth 100000
set_option linter.unusedSimpArgs false

end Go.Ab

/- bif.place, bif.Two, bif.Call of element. Conditions: numbers in range. -/
namespace Go.Ab
open Go.Proofs
set_option maxRecDepth 100000
set_option linter.unusedSimpArgs false

/-! ### What is thrown -/
def T0 : T := .mk 0 false .n [] [] 0 .n []
theorem bdT_00 : buildA Tryz.prog 29 [] = some (.agg (cellsT T0)) := bdT_
theorem ldE_mixK (t k : Nat) (xs : List AV) (v : AV) : ldE Tryz.prog 22 ⟨t, .mix xs [(5, v)]⟩ k 5 = if t = k then some v else none := by
  simp only [ldE, ldC, shTk, heldL, if_true]
theorem ldE_mixT (t k : Nat) (u : T) (hs : List (Nat × AV)) : ldE Tryz.prog 29 ⟨t, .mix (cellsT u) hs⟩ k 0 = if t = k then some (.agg (cellsT u)) else none := by
  have := ldT_u t k u
  simp only [ldE, ldC, shT] at this ⊢
  exact this
theorem faE_mix (t p k off : Nat) (xs : List AV) (hs : List (Nat × AV)) : faE ⟨t, .mix xs hs⟩ p k off = if t = k then some (.ptr p k off) else none := by
  simp only [faE, cellsE]
  by_cases e : t = k <;> simp [e]
end Go.Ab

/- relictlaw19.few, relictref03.Nodes; slices of rows of terms, put behind one another. Conditions: lengths in range. -/
namespace Go.Ab
open Go.Proofs
set_option maxRecDepth 100000
set_option linter.unusedSimpArgs false

def fewR : Nat → List T → Bool
  | 0, _ => true
  | _ + 1, [] => true
  | n + 1, t :: r => decide (lgT t 100 ≥ 0) && fewR n r
theorem fewR_nil (n : Nat) : fewR n [] = true := by cases n <;> rfl
theorem fewR_all : ∀ (n : Nat) (ks : List T), fewR n ks = true → ks.length ≤ n → ∀ t ∈ ks, lgT t 100 ≥ 0
  | _, [], _, _, t, h => by cases h
  | 0, _ :: _, _, hl, _, _ => by simp at hl
  | n + 1, x :: r, h, hl, t, ht => by
    simp only [fewR, Bool.and_eq_true, decide_eq_true_eq] at h
    rcases List.mem_cons.mp ht with rfl | ht
    · exact h.1
    · exact fewR_all n r h.2 (by simpa using hl) t ht
set_option maxHeartbeats 4000000 in
theorem fewB_eq (R d : Nat) (hR : 2000 ≤ R) (hR2 : R ≤ 9223372036854775808) (hd : 103 ≤ d) (ks : List T) (g : Grip) (hb : bigK R ks) (hf : fewK R ks) :
    evalFn Tryz.prog cfg0 R (d+1) 6 [.tree (.sl (cellsK ks) ks.length g)] = some (.tree (.bool (fewR 12 ks && decide (ks.length ≤ 12))), [[]]) := by
  rw [evalFn_go _ Tryz.func6 (by unfold Tryz.f6; rfl) (by unfold Tryz.f6; decide) (Nat.le_of_ble_eq_true (by unfold Tryz.f6; rfl)) (by kernel_rfl)]
  obtain ⟨d', rfl⟩ : ∃ d', d = d' + 1 := ⟨d - 1, by omega⟩
  simp only [simB, zbo, Nat.reduceBEq, own0, ↓reduceIte, Nat.reduceEqDiff, Nat.reduceAdd, env0, List.getElem?_cons_zero, List.getElem?_cons_succ, zdv, zdw, zdx, zdy, zdz, zea, zeb, zec, ia22, ld31, zed, zee, zef, zeg, zeh, zei, zej, zek, zel, zem, zen, zeo, zep, zeq, zer, fa_0, fa_1, zes, bd_0, bd_2, zet, fd_1, zeu, Nat.zero_add, den_loop]
  refine loop_ends (X := Nat) (fun i env st => env 0 = .sl (cellsK ks) ks.length g ∧ env 3 = .int .i64 (i : Int) ∧ i ≤ ks.length ∧ i ≤ 12 ∧ fewR (12 - i) (ks.drop i) = fewR 12 ks) (fun i => 12 - i) (fun _ => (.tree (.bool (fewR 12 ks && decide (ks.length ≤ 12))), [[]])) ?_ R 0 _ _ (by omega) ⟨(by first | (simp only [zfp, ↓reduceIte, Nat.reduceEqDiff, env0, List.getElem?_cons_zero]; done) | (simp only [zfp, ↓reduceIte, Nat.reduceEqDiff, env0, List.getElem?_cons_zero]; rfl)), (by first | (simp only [zfp, ↓reduceIte, Nat.reduceEqDiff]; done) | (simp only [zfp, ↓reduceIte, Nat.reduceEqDiff]; rfl)), Nat.zero_le _, Nat.zero_le _, rfl⟩
  intro rr i hr ih env st ⟨e0, e3, hi, hi2, hc⟩
  cases hdr : ks.drop i with
  | nil =>
    have hil : i = ks.length := by have := congrArg List.length hdr; simp only [List.length_drop, List.length_nil] at this; omega
    have q1 : ¬ (i : Int) < (ks.length : Int) := by omega
    have q2 : (ks.length : Int) ≤ 12 := by omega
    have q3 : ks.length ≤ 12 := by omega
    rw [hdr, fewR_nil] at hc
    rw [← hc]
    simp only [simB, zbo, Nat.reduceBEq, own0, ↓reduceIte, Nat.reduceEqDiff, Nat.reduceAdd, zdv, zdw, zdx, zdy, zdz, zea, zeb, zec, ia22, ld31, zed, zee, zef, zeg, zeh, zei, zej, zek, zel, zem, zen, zeo, zep, zeq, zer, fa_0, fa_1, zes, bd_0, bd_2, zet, fd_1, zeu, Nat.zero_add, e0, e3, lenTk, q1, q2, q3]
    exact finish_b _ _ _ _ _ _ _ (by first | (simp only [zfp, ↓reduceIte, Nat.reduceEqDiff]; done) | (simp only [zfp, ↓reduceIte, Nat.reduceEqDiff]; rfl)) rfl
  | cons kid r =>
    have hil : i < ks.length := by have := congrArg List.length hdr; simp only [List.length_drop, List.length_cons] at this; omega
    have q1 : (i : Int) < (ks.length : Int) := by omega
    by_cases h12 : i = 12
    · have q2 : ¬ (i : Int) < 12 := by omega
      have q3 : ¬ ((ks.length : Int) ≤ 12) := by omega
      have q4 : ¬ (ks.length ≤ 12) := by omega
      rw [decide_eq_false q4, Bool.and_false]
      simp only [simB, zbo, Nat.reduceBEq, own0, ↓reduceIte, Nat.reduceEqDiff, Nat.reduceAdd, zdv, zdw, zdx, zdy, zdz, zea, zeb, zec, ia22, ld31, zed, zee, zef, zeg, zeh, zei, zej, zek, zel, zem, zen, zeo, zep, zeq, zer, fa_0, fa_1, zes, bd_0, bd_2, zet, fd_1, zeu, Nat.zero_add, e0, e3, lenTk, q1, q2, q3]
      exact finish_b _ _ _ _ _ _ _ (by first | (simp only [zfp, ↓reduceIte, Nat.reduceEqDiff]; done) | (simp only [zfp, ↓reduceIte, Nat.reduceEqDiff]; rfl)) rfl
    have q2 : (i : Int) < 12 := by omega
    obtain ⟨n, hn⟩ : ∃ n, 12 - i = n + 1 := ⟨11 - i, by omega⟩
    rw [hdr, hn] at hc
    simp only [fewR] at hc
    have kb := bigK_at R ks i kid r hdr hb
    have kf := fewK_at R ks i kid r hdr hf
    have cli := fun D st => callA_trees (cfg := cfg0) (d := D) (s := st) (f := 31) (vs := [encT kid, .int .i64 100]) rfl (Light_eq R hR hR2 d' kid 100 (by decide) (by decide) (by omega) kb kf)
    have ia := fun st => ia_K st ks g i hil
    rw [hdr] at ia
    have ld := fun st => ld_K st kid r
    simp only [encT] at cli ld
    by_cases hg : lgT kid 100 ≥ 0
    · rw [decide_eq_true hg] at cli hc
      rw [Bool.true_and] at hc
      have f5 := i_add Tryz.prog 3 (i : Int) 1 (by omega) (by omega)
      simp only [simB, zbo, Nat.reduceBEq, own0, ↓reduceIte, Nat.reduceEqDiff, Nat.reduceAdd, zdv, zdw, zdx, zdy, zdz, zea, zeb, zec, ia22, ld31, zed, zee, zef, zeg, zeh, zei, zej, zek, zel, zem, zen, zeo, zep, zeq, zer, fa_0, fa_1, zes, bd_0, bd_2, zet, fd_1, zeu, Nat.zero_add, e0, e3, lenTk, q1, q2, ia, ld, cli, unA_not', Bool.not_true, f5]
      exact ih (i + 1) _ _ (by omega) rfl ⟨(by first | (simp only [zfp, ↓reduceIte, Nat.reduceEqDiff, e0]; done) | (simp only [zfp, ↓reduceIte, Nat.reduceEqDiff, e0]; rfl)), (by first | (simp only [zfp, ↓reduceIte, Nat.reduceEqDiff]; done) | (simp only [zfp, ↓reduceIte, Nat.reduceEqDiff]; rfl)), by omega, by omega, by rw [drop_next hdr, show 12 - (i + 1) = n by omega]; exact hc⟩
    · rw [decide_eq_false hg] at cli hc
      rw [Bool.false_and] at hc
      rw [← hc, Bool.false_and]
      simp only [simB, zbo, Nat.reduceBEq, own0, ↓reduceIte, Nat.reduceEqDiff, Nat.reduceAdd, zdv, zdw, zdx, zdy, zdz, zea, zeb, zec, ia22, ld31, zed, zee, zef, zeg, zeh, zei, zej, zek, zel, zem, zen, zeo, zep, zeq, zer, fa_0, fa_1, zes, bd_0, bd_2, zet, fd_1, zeu, Nat.zero_add, e0, e3, lenTk, q1, q2, ia, ld, cli, unA_not', Bool.not_false]
      exact finish_b _ _ _ _ _ _ _ (by first | (simp only [zfp, ↓reduceIte, Nat.reduceEqDiff]; done) | (simp only [zfp, ↓reduceIte, Nat.reduceEqDiff]; rfl)) rfl
/-! ### Rows, sliced and put behind one another -/
end Go.Ab

/- The statement BifOrders, its end. Conditions: terms that may be. -/
namespace Go.Ab
open Go.Proofs
set_option maxRecDepth 100000
set_option linter.unusedSimpArgs false

mutual
theorem few_node (N : Nat) : ∀ t : T, leanT t → nodT t ≤ N → 41 ≤ N → fewT (N + 1) t
  | .mk k b lg l s m kg ks, h, hn, h41 => by
    simp only [leanT] at h
    simp only [nodT] at hn
    have := nodK_len ks
    simp only [fewT]
    exact ⟨by omega, by omega, few_nodeK N ks h.2.2 (by omega) h41⟩
theorem few_nodeK (N : Nat) : ∀ ks : List T, leanK ks → nodK ks ≤ N → 41 ≤ N → fewK (N + 1) ks
  | [], _, _, _ => by simp only [fewK]
  | t :: r, h, hn, h41 => by
    simp only [leanK] at h
    simp only [nodK] at hn
    have := nod_pos t
    simp only [fewK]
    exact ⟨few_node N t h.1 (by omega) h41, few_nodeK N r h.2 (by omega) h41⟩
end
mutual
theorem fewT_le {m m' : Nat} (h : m ≤ m') : ∀ t : T, fewT m t → fewT m' t
  | .mk k b lg l s n kg ks, ht => by
    simp only [fewT] at ht ⊢
    exact ⟨by omega, by omega, fewK_le h ks ht.2.2⟩
theorem fewK_le {m m' : Nat} (h : m ≤ m') : ∀ ks : List T, fewK m ks → fewK m' ks
  | [], _ => by simp only [fewK]
  | t :: r, ht => by
    simp only [fewK] at ht ⊢
    exact ⟨fewT_le h t ht.1, fewK_le h r ht.2⟩
end
section
variable (R : Nat) (hR : 1000000 ≤ R) (a b : T) (l : List T) (n : Int) (ga : goodT a) (gb : goodT b) (na : nodT a ≤ 200) (nb : nodT b ≤ 200)
include hR na nb
omit na nb in
include ga in
end
end Go.Ab

/- relictlaw00.Term: a term in new memory (CFG3). Conditions: lengths in range. -/
namespace Go.Ab
open Go.Proofs
set_option maxRecDepth 100000
set_option linter.unusedSimpArgs false

noncomputable def prim3 (f : FuncId) (xs : List Arg) : Option Out := match f == 21 with
  | true => none
  | false => evalFn Tryz.prog cfg0 9223372036854775808 6190 f xs
noncomputable def cfg3 : Cfg := ⟨fun _ _ => false, fun _ => false, prim3, fun p => p == "=law.go:33"⟩
theorem own3 (p : String) : cfg3.ownAt p = (p == "=law.go:33") := rfl
theorem keep3 (f : FuncId) : cfg3.keep f = false := rfl
theorem ev3 {n d : Nat} {f : FuncId} {xs : List Arg} {o : Out} (h1 : (f == 21) = false) (h : evalFn Tryz.prog cfg0 9223372036854775808 6190 f xs = some o) : evalFn Tryz.prog cfg3 n (d+1) f xs = some o := by
  have hc : cfg3.prim = prim3 := rfl
  have hp : prim3 f xs = some o := by unfold prim3; rw [h1]; exact h
  rw [evalFn]
  simp only [hc, hp]
/-! ### A term whose kids grow in a cell -/
def setK : T → Gk → List T → T
  | .mk k b lg l s n _ _, kg, us => .mk k b lg l s n kg us
def TermM (e : Ent) (u : T) (us : List T) (x : AV) : Prop := (us = [] ∧ x = .sl [] 0 .nil ∧ e = ⟨1, .buf (cellsT (setK u .n []))⟩) ∨ (us ≠ [] ∧ ∃ q t, x = .sl (cellsK us) us.length (.tok q t) ∧ e = ⟨1, .mix (cellsT (setK u .l us)) [(5, x)]⟩)
theorem TermM.fa {e : Ent} {u : T} {us : List T} {x : AV} (h : TermM e u us x) (p : Nat) : faE e p 1 5 = some (.ptr p 1 5) := by
  rcases h with ⟨_, _, rfl⟩ | ⟨_, q, t, _, rfl⟩
  · rw [zes, if_pos rfl]
  · rw [faE_mix, if_pos rfl]
theorem ldT_sK (t k : Nat) (u : T) (kg : Gk) (us : List T) : ldE Tryz.prog 22 ⟨t, .buf (cellsT (setK u kg us))⟩ k 5 = if t = k then some (.sl (cellsK us) us.length (gr kg)) else none := by
  obtain ⟨a, b, c, d, e, f, g, h⟩ := u
  exact ldT_4 _ _ _ _ _ _ _ _
theorem TermM.ld {e : Ent} {u : T} {us : List T} {x : AV} (h : TermM e u us x) : ldE Tryz.prog 22 e 1 5 = some x := by
  rcases h with ⟨_, rfl, rfl⟩ | ⟨_, q, t, _, rfl⟩
  · exact (ldT_sK 1 1 u .n []).trans (if_pos rfl)
  · exact (ldE_mixK 1 1 _ x).trans (if_pos rfl)
theorem TermM.all {e : Ent} {u : T} {us : List T} {x : AV} (h : TermM e u us x) : ldE Tryz.prog 29 e 1 0 = some (.agg (cellsT (setK u (kgOf us) us))) := by
  rcases h with ⟨rfl, _, rfl⟩ | ⟨hu, q, t, _, rfl⟩
  · exact (ldT_u 1 1 _).trans (if_pos rfl)
  · rw [kgOf, if_neg hu]
    exact (ldE_mixT 1 1 _ _).trans (if_pos rfl)
theorem set5 (u : T) (kg : Gk) (us vs : List T) : (cellsT (setK u kg us)).set 5 (.sl (cellsK vs) vs.length .loose) = cellsT (setK u .l vs) := by
  obtain ⟨a, b, c, d, e, f, g, h⟩ := u
  rfl
theorem TermM.store {s : St} {p : Nat} {u : T} {us vs : List T} {x x' : AV} {d : Nat} {s0 : St} (h : TermM (s p) u us x) (ha : Ap s0 d x' vs) (hv : vs ≠ []) :
    ∃ s', storeH Tryz.prog 22 s (.ptr p 1 5) x' = some s' ∧ (∀ q, q ≠ p → s' q = s q) ∧ TermM (s' p) u vs x' := by
  rcases ha with ⟨rfl, _⟩ | ⟨_, t, rfl, _⟩
  · exact absurd rfl hv
  refine ⟨upd s p ⟨1, .mix (cellsT (setK u .l vs)) [(5, .sl (cellsK vs) vs.length (.tok d t))]⟩, ?_, fun q hq => upd_ne _ _ hq, .inr ⟨hv, d, t, rfl, upd_same _ _ _⟩⟩
  rcases h with ⟨rfl, rfl, he⟩ | ⟨hu, q, t', rfl, he⟩
  · simp only [storeH, he, eszTk]
    rw [if_pos ⟨trivial, trivial, by rw [cellsT_len]; decide⟩, set5]
  · simp only [storeH, he, eszTk]
    rw [if_pos ⟨trivial, trivial, by rw [cellsT_len]; decide⟩, set5]
    rfl
theorem htK_J : ∀ (ks : List T) (i : Nat) (t : T) (r : List T), ks.drop i = t :: r → htT t ≤ htK ks
  | [], i, t, r, h => by simp at h
  | a :: q, 0, t, r, h => by
    simp only [List.drop_zero, List.cons.injEq] at h
    obtain ⟨rfl, rfl⟩ := h
    simp only [htK]; omega
  | a :: q, i + 1, t, r, h => by
    have := htK_J q i t r (by simpa using h)
    simp only [htK]; omega
/-! ### The copy -/
mutual
def copyT : T → T
  | .mk k b _ l s n _ ks => .mk k b .l l s n (kgOf (copyK ks)) (copyK ks)
def copyK : List T → List T
  | [] => []
  | t :: r => copyT t :: copyK r
end
theorem copyK_map : ∀ ks : List T, copyK ks = ks.map copyT
  | [] => by simp only [copyK, List.map_nil]
  | t :: r => by simp only [copyK, List.map_cons, copyK_map r]
theorem bdT_full (k : Int) (b : Bool) (g : Gk) (l : List Nat) (s : List UInt8) (n : Int) : buildA Tryz.prog 29 [(0, .int .i64 k), (1, .agg [.bool b, encL g l]), (2, .str s), (3, .int .i64 n)] = some (.agg (cellsT (.mk k b g l s n .n []))) := by
  simp only [buildA, zeroT, tkT, plT, Option.bind_some]
  cases g <;> rfl
theorem one26_c3 (call : FuncId → List Arg → Option Out) (q : Bool) (d : Option Tmp) (ty : TypeId) (pos : String) (af : Array Edge) (g : Option (Nat × Bool)) (t : Nat) (env : Env) (s : St) (x : Operand) :
    opA Tryz.prog cfg3 call q ⟨d, .buildSlice 22 1 #[(0, x)], ty, pos, af, g⟩ t env s = (one26 (ev env x)).map (·, s) := by
  rw [opA_bs]
  simp only [tkTk, eszT, zeroT, Option.bind_some, List.map_cons, List.map_nil]
  rfl
theorem one26_KU (e : T) : one26 (.agg (cellsT e)) = some (.sl (cellsT e) 1 .tight) := by
  have := one26_K1 e
  simp only [cellsK, List.append_nil] at this
  exact this
set_option maxHeartbeats 16000000 in
theorem term3_eq (n : Nat) (hn : 100000 ≤ n) : ∀ (d : Nat) (t : T), htT t ≤ d → fewT 100000 t → evalFn Tryz.prog cfg3 n (d+1) 21 [.tree (encT t)] = some (.tree (encT (copyT t)), [[]])
  | 0, t, hd, _ => by obtain ⟨k, b, lg, l, s, m, kg, ks⟩ := t; simp only [htT] at hd; omega
  | d + 1, t, hd, hf => by
    have IH := term3_eq n hn d
    rw [evalFn_go _ Tryz.func21 (by unfold Tryz.f21; rfl) (by unfold Tryz.f21; decide) (Nat.le_of_ble_eq_true (by unfold Tryz.f21; rfl)) (by kernel_rfl)]
    obtain ⟨k, b, lg, l, s, m, kg, ks⟩ := t
    simp only [htT] at hd
    simp only [fewT] at hf
    obtain ⟨hl, hk, hfk⟩ := hf
    have cn := callQ_trees (f := 50) (vs := [encA b lg l]) (by cases lg <;> rfl) (ev3 (n := n) (d := d) rfl (copyN_eq 9223372036854775808 6188 b lg l (by omega)))
    simp only [encA] at cn
    have bd := bdT_full k b .l l s m
    simp only [simB, keep3, Nat.reduceBEq, own3, String.reduceAppend, String.reduceBEq, Bool.or_false, Bool.or_true, Bool.or_self, ↓reduceIte, Nat.reduceEqDiff, Nat.reduceAdd, env0, List.getElem?_cons_zero, List.getElem?_cons_succ, zdv, zdw, zdx, zdy, zdz, zea, zeb, zec, ia22, ld31, zed, zee, zef, zeg, zeh, zei, zej, zek, zel, zem, zen, zeo, zep, zeq, zer, fa_0, fa_1, zes, bd_0, bd_2, zet, fd_1, zeu, Nat.zero_add, encT, zeroT, cellsT, ldT_a, ldT_0, ldT_1, ldT_2, ldT_3, ldT_4, faT_0, faT_1, faT_2, faT_3, faT_4, Nat.reduceAdd, cn, bd, st_T, stT_buf, st0_1, zel, den_loop]
    refine loop_ends (X := Nat) (fun i env s' => env 1 = .ptr 1 1 0 ∧ env 2 = .ptr 2 1 0 ∧ env 3 = .ptr 3 1 0 ∧ env 4 = .int .i64 (i : Int) ∧ s' 1 = ⟨1, .buf (cellsT (.mk k b lg l s m kg ks))⟩ ∧ s' 2 = ⟨1, .buf [.int .i64 0, .bool false, .sl [] 0 .nil, .str [], .int .i64 0, .sl [] 0 .nil]⟩ ∧ (∃ x, Ap s' 31 x ((ks.take i).map copyT) ∧ TermM (s' 3) (.mk k b .l l s m .n []) ((ks.take i).map copyT) x) ∧ i ≤ ks.length) (fun i => ks.length - i) (fun _ => (.tree (encT (copyT (.mk k b lg l s m kg ks))), [[]])) ?_ n 0 _ _ (by omega) ⟨(by first | (simp only [zfp, ↓reduceIte, Nat.reduceEqDiff]; done) | (simp only [zfp, ↓reduceIte, Nat.reduceEqDiff]; rfl)), (by first | (simp only [zfp, ↓reduceIte, Nat.reduceEqDiff]; done) | (simp only [zfp, ↓reduceIte, Nat.reduceEqDiff]; rfl)), (by first | (simp only [zfp, ↓reduceIte, Nat.reduceEqDiff]; done) | (simp only [zfp, ↓reduceIte, Nat.reduceEqDiff]; rfl)), (by first | (simp only [zfp, ↓reduceIte, Nat.reduceEqDiff]; done) | (simp only [zfp, ↓reduceIte, Nat.reduceEqDiff]; rfl)), by simp only [cellsT]; exact (by first | (simp only [zfp, ↓reduceIte, Nat.reduceEqDiff]; done) | (simp only [zfp, ↓reduceIte, Nat.reduceEqDiff]; rfl)), (by first | (simp only [zfp, ↓reduceIte, Nat.reduceEqDiff]; done) | (simp only [zfp, ↓reduceIte, Nat.reduceEqDiff]; rfl)), ⟨.sl [] 0 .nil, .inl ⟨rfl, rfl⟩, .inl ⟨rfl, rfl, (by first | (simp only [zfp, ↓reduceIte, Nat.reduceEqDiff]; done) | (simp only [zfp, ↓reduceIte, Nat.reduceEqDiff]; rfl))⟩⟩, Nat.zero_le _⟩
    rintro rr i hrr ih2 env st ⟨e1, e2, e3, e4, j1, j2, ⟨x, ap, tm⟩, hi⟩
    simp only [cellsT] at j1
    cases hdr : ks.drop i with
    | nil =>
      have hil : i = ks.length := by have := congrArg List.length hdr; simp only [List.length_drop, List.length_nil] at this; omega
      subst hil
      rw [List.take_length] at tm
      have q1 : ¬ ((ks.length : Int) < (ks.length : Int)) := by omega
      have ta := tm.all
      have hc : copyT (.mk k b lg l s m kg ks) = setK (.mk k b .l l s m .n []) (kgOf (ks.map copyT)) (ks.map copyT) := by simp only [copyT, copyK_map, setK]
      rw [hc]
      simp only [simB, keep3, Nat.reduceBEq, own3, String.reduceAppend, String.reduceBEq, Bool.or_false, Bool.or_true, Bool.or_self, ↓reduceIte, Nat.reduceEqDiff, Nat.reduceAdd, zdv, zdw, zdx, zdy, zdz, zea, zeb, zec, ia22, ld31, zed, zee, zef, zeg, zeh, zei, zej, zek, zel, zem, zen, zeo, zep, zeq, zer, fa_0, fa_1, zes, bd_0, bd_2, zet, fd_1, zeu, Nat.zero_add, e1, e2, e3, e4, j1, j2, faT_4, Nat.reduceAdd, ldT_4, lenTk, q1, ta, st_Tt, stT_6]
      exact finish_cT _ _ _ _ _ (setK (.mk k b .l l s m .n []) (kgOf (ks.map copyT)) (ks.map copyT)) _ _ _ (by first | (simp only [zfp, ↓reduceIte, Nat.reduceEqDiff, e2]; done) | (simp only [zfp, ↓reduceIte, Nat.reduceEqDiff, e2]; rfl)) (by first | (simp only [zfp, ↓reduceIte, Nat.reduceEqDiff]; done) | (simp only [zfp, ↓reduceIte, Nat.reduceEqDiff]; rfl)) rfl
    | cons kid r =>
      have hil : i < ks.length := by have := congrArg List.length hdr; simp only [List.length_drop, List.length_cons] at this; omega
      have q1 : (i : Int) < (ks.length : Int) := by omega
      have hkd := htK_J ks i kid r hdr
      have ck := callQ_trees (f := 21) (vs := [encT kid]) rfl (IH kid (by omega) (fewK_at 100000 ks i kid r hdr hfk))
      have ia := fun st => ia_K st ks (gr kg) i hil
      rw [hdr] at ia
      have ld := fun st => ld_K st kid r
      have hx : ks[i]? = some kid := by rw [← Nat.add_zero i, ← List.getElem?_drop, hdr]; rfl
      have hm : (ks.take (i + 1)).map copyT = (ks.take i).map copyT ++ [copyT kid] := by
        rw [List.take_add_one, hx, List.map_append]; rfl
      have hlen : ((ks.take i).map copyT).length ≤ 1000000 := by rw [List.length_map, List.length_take]; omega
      obtain ⟨x', s', a1', a2', a3'⟩ := ap.push hlen (copyT kid)
      have tf := tm.fa 3
      have tl := tm.ld
      have h3 : s' 3 = st 3 := a3' 3 (by decide)
      have h1' : s' 1 = st 1 := a3' 1 (by decide)
      rw [j1] at h1'
      have tm3 : TermM (s' 3) (.mk k b .l l s m .n []) ((ks.take i).map copyT) x := by rw [h3]; exact tm
      obtain ⟨s2, b1, b2, b3⟩ := tm3.store a2' (by simp)
      have f5 := i_add Tryz.prog 3 (i : Int) 1 (by omega) (by omega)
      have tf' := tm3.fa 3
      simp only [encT] at ld ck
      simp only [simB, keep3, Nat.reduceBEq, own3, String.reduceAppend, String.reduceBEq, Bool.or_false, Bool.or_true, Bool.or_self, ↓reduceIte, Nat.reduceEqDiff, Nat.reduceAdd, zdv, zdw, zdx, zdy, zdz, zea, zeb, zec, ia22, ld31, zed, zee, zef, zeg, zeh, zei, zej, zek, zel, zem, zen, zeo, zep, zeq, zer, fa_0, fa_1, zes, bd_0, bd_2, zet, fd_1, zeu, Nat.zero_add, e1, e2, e3, e4, j1, j2, faT_4, Nat.reduceAdd, ldT_4, lenTk, q1, tf, tl, ia, ld, ck, one26_c3, one26_KU, a1', h1', tf', b1, f5]
      refine ih2 (i + 1) _ _ (by omega) rfl ⟨(by first | (simp only [zfp, ↓reduceIte, Nat.reduceEqDiff, e1]; done) | (simp only [zfp, ↓reduceIte, Nat.reduceEqDiff, e1]; rfl)), (by first | (simp only [zfp, ↓reduceIte, Nat.reduceEqDiff, e2]; done) | (simp only [zfp, ↓reduceIte, Nat.reduceEqDiff, e2]; rfl)), (by first | (simp only [zfp, ↓reduceIte, Nat.reduceEqDiff, e3]; done) | (simp only [zfp, ↓reduceIte, Nat.reduceEqDiff, e3]; rfl)), (by first | (simp only [zfp, ↓reduceIte, Nat.reduceEqDiff]; done) | (simp only [zfp, ↓reduceIte, Nat.reduceEqDiff]; rfl)), ?_, ?_, ⟨x', ?_, ?_⟩, by omega⟩
      · rw [b2 1 (by decide), h1']; simp only [cellsT]
      · rw [b2 2 (by decide), a3' 2 (by decide), j2]
      · rw [hm]
        rcases a2' with ⟨g1, _⟩ | ⟨g1, tt, g2, g3⟩
        · exact absurd g1 (by simp)
        · exact .inr ⟨g1, tt, g2, by rw [b2 31 (by decide)]; exact g3⟩
      · rw [hm]; exact b3
end Go.Ab

/- relictlaw00.SameTerm of terms that differ in their rows' room alone. Conditions: lengths in range. -/
namespace Go.Ab
open Go.Proofs
set_option maxRecDepth 100000
set_option linter.unusedSimpArgs false

mutual
/-- A term, without what is known of rows' room. -/
def bareT : T → T
  | .mk k b _ l s n _ ks => .mk k b .n l s n .n (bareK ks)
def bareK : List T → List T
  | [] => []
  | t :: r => bareT t :: bareK r
end
theorem bareK_len : ∀ ks : List T, (bareK ks).length = ks.length
  | [] => rfl
  | t :: r => by simp only [bareK, List.length_cons, bareK_len r]
theorem bareK_drop : ∀ (i : Nat) (ks : List T), bareK (ks.drop i) = (bareK ks).drop i
  | 0, ks => by simp
  | i + 1, [] => rfl
  | i + 1, t :: r => by simp only [List.drop_succ_cons, bareK, bareK_drop i r]
mutual
theorem bare_copy : ∀ t : T, bareT (copyT t) = bareT t
  | .mk k b lg l s n kg ks => by simp only [copyT, bareT, bareK_copy ks]
theorem bareK_copy : ∀ ks : List T, bareK (copyK ks) = bareK ks
  | [] => rfl
  | t :: r => by simp only [copyK, bareK, bare_copy t, bareK_copy r]
end
set_option maxHeartbeats 16000000 in
theorem sameX_eq (n : Nat) (hn : 100000 ≤ n) : ∀ (d : Nat) (x y : T), htT x ≤ d → fewT 100000 x → bareT x = bareT y →
    evalFn Tryz.prog cfg0 n (d+2) 11 [.tree (encT x), .tree (encT y)] = some (.tree (.bool true), [[], []])
  | 0, x, y, hd, _, _ => by obtain ⟨k, b, lg, l, s, m, kg, ks⟩ := x; simp only [htT] at hd; omega
  | d + 1, x, y, hd, hf, hb => by
    have IH := sameX_eq n hn d
    rw [evalFn_go _ Tryz.func11 (by unfold Tryz.f11; rfl) (by unfold Tryz.f11; decide) (Nat.le_of_ble_eq_true (by unfold Tryz.f11; rfl)) (by kernel_rfl)]
    obtain ⟨k, b, lg, l, s, m, kg, ks⟩ := x
    obtain ⟨k', b', lg', l', s', m', kg', ks'⟩ := y
    simp only [bareT, T.mk.injEq, true_and] at hb
    obtain ⟨rfl, rfl, rfl, rfl, rfl, hb⟩ := hb
    have hkl : ks.length = ks'.length := by have := congrArg List.length hb; rwa [bareK_len, bareK_len] at this
    simp only [htT] at hd
    simp only [fewT] at hf
    obtain ⟨hl, hk, hfk⟩ := hf
    have cn := fun D st => callA_trees (cfg := cfg0) (d := D) (s := st) (f := 39) (vs := [encA b lg l, encA b lg' l]) (by cases lg <;> cases lg' <;> rfl) (sameN_eq n d b lg lg' l (by omega) (by omega))
    simp only [encA] at cn
    have w1 : (k != k) = false := by simp
    have w2 : (m != m) = false := by simp
    have w3 : (!(s == s)) = false := by simp
    have w4 : ((ks'.length : Int) != (ks'.length : Int)) = false := by simp
    simp only [simB, zbo, Nat.reduceBEq, own0, ↓reduceIte, Nat.reduceEqDiff, Nat.reduceAdd, env0, List.getElem?_cons_zero, List.getElem?_cons_succ, zdv, zdw, zdx, zdy, zdz, zea, zeb, zec, ia22, ld31, zed, zee, zef, zeg, zeh, zei, zej, zek, zel, zem, zen, zeo, zep, zeq, zer, fa_0, fa_1, zes, bd_0, bd_2, zet, fd_1, zeu, Nat.zero_add, encT, cellsT, hkl, ldT_0, ldT_1, ldT_2, ldT_3, ldT_4, faT_0, faT_1, faT_2, faT_3, faT_4, Nat.reduceAdd, i_neqV, i_eqlV, s_eqlS, s_neqS, w1, w2, w3, w4, cn, unA_not', Bool.not_true, lenTk, st0_2, zel, den_loop]
    refine loop_ends (X := Nat) (fun i env s' => env 2 = .ptr 2 1 0 ∧ env 3 = .ptr 3 1 0 ∧ env 5 = .int .i64 (i : Int) ∧ s' 2 = ⟨1, .buf (cellsT (.mk k b lg l s m kg ks))⟩ ∧ s' 3 = ⟨1, .buf (cellsT (.mk k b lg' l s m kg' ks'))⟩ ∧ i ≤ ks.length) (fun i => ks.length - i) (fun _ => (.tree (.bool true), [[], []])) ?_ n 0 _ _ (by omega) ⟨(by first | (simp only [zfp, ↓reduceIte, Nat.reduceEqDiff]; done) | (simp only [zfp, ↓reduceIte, Nat.reduceEqDiff]; rfl)), (by first | (simp only [zfp, ↓reduceIte, Nat.reduceEqDiff]; done) | (simp only [zfp, ↓reduceIte, Nat.reduceEqDiff]; rfl)), (by first | (simp only [zfp, ↓reduceIte, Nat.reduceEqDiff]; done) | (simp only [zfp, ↓reduceIte, Nat.reduceEqDiff]; rfl)), by simp only [cellsT, hkl]; exact (by first | (simp only [zfp, ↓reduceIte, Nat.reduceEqDiff]; done) | (simp only [zfp, ↓reduceIte, Nat.reduceEqDiff]; rfl)), by simp only [cellsT]; exact (by first | (simp only [zfp, ↓reduceIte, Nat.reduceEqDiff]; done) | (simp only [zfp, ↓reduceIte, Nat.reduceEqDiff]; rfl)), Nat.zero_le _⟩
    rintro rr i hrr ih2 env st ⟨e2, e3, e5, j2, j3, hi⟩
    simp only [cellsT] at j2 j3
    cases hdr : ks.drop i with
    | nil =>
      have hil : i = ks.length := by have := congrArg List.length hdr; simp only [List.length_drop, List.length_nil] at this; omega
      subst hil
      have q1 : ¬ ((ks.length : Int) < (ks.length : Int)) := by omega
      simp only [simB, zbo, Nat.reduceBEq, own0, ↓reduceIte, Nat.reduceEqDiff, Nat.reduceAdd, zdv, zdw, zdx, zdy, zdz, zea, zeb, zec, ia22, ld31, zed, zee, zef, zeg, zeh, zei, zej, zek, zel, zem, zen, zeo, zep, zeq, zer, fa_0, fa_1, zes, bd_0, bd_2, zet, fd_1, zeu, Nat.zero_add, e2, e3, e5, j2, j3, faT_4, Nat.reduceAdd, ldT_4, lenTk, q1]
      exact finish_b _ _ _ _ _ _ _ (by first | (simp only [zfp, ↓reduceIte, Nat.reduceEqDiff]; done) | (simp only [zfp, ↓reduceIte, Nat.reduceEqDiff]; rfl)) rfl
    | cons kid r =>
      have hil : i < ks.length := by have := congrArg List.length hdr; simp only [List.length_drop, List.length_cons] at this; omega
      have q1 : (i : Int) < (ks.length : Int) := by omega
      have hkd := htK_J ks i kid r hdr
      have hbd : bareT kid :: bareK r = bareK (ks'.drop i) := by rw [bareK_drop, ← hb, ← bareK_drop, hdr]; rfl
      cases hdr' : ks'.drop i with
      | nil => rw [hdr'] at hbd; cases hbd
      | cons kid' r' =>
      rw [hdr'] at hbd
      simp only [bareK, List.cons.injEq] at hbd
      have ck := callQ_trees (f := 11) (vs := [encT kid, encT kid']) rfl (IH kid kid' (by omega) (fewK_at 100000 ks i kid r hdr hfk) hbd.1)
      have ia := fun st => ia_K st ks (gr kg) i hil
      have ia' := fun st => ia_K st ks' (gr kg') i (by omega)
      rw [hdr] at ia
      rw [hdr'] at ia'
      have ld := fun st => ld_K st kid r
      have ld' := fun st => ld_K st kid' r'
      have f5 := i_add Tryz.prog 3 (i : Int) 1 (by omega) (by omega)
      simp only [encT] at ld ld' ck
      simp only [simB, zbo, Nat.reduceBEq, own0, ↓reduceIte, Nat.reduceEqDiff, Nat.reduceAdd, zdv, zdw, zdx, zdy, zdz, zea, zeb, zec, ia22, ld31, zed, zee, zef, zeg, zeh, zei, zej, zek, zel, zem, zen, zeo, zep, zeq, zer, fa_0, fa_1, zes, bd_0, bd_2, zet, fd_1, zeu, Nat.zero_add, e2, e3, e5, j2, j3, faT_4, Nat.reduceAdd, ldT_4, lenTk, q1, ia, ia', ld, ld', ck, unA_not', Bool.not_true, f5]
      exact ih2 (i + 1) _ _ (by omega) rfl ⟨(by first | (simp only [zfp, ↓reduceIte, Nat.reduceEqDiff, e2]; done) | (simp only [zfp, ↓reduceIte, Nat.reduceEqDiff, e2]; rfl)), (by first | (simp only [zfp, ↓reduceIte, Nat.reduceEqDiff, e3]; done) | (simp only [zfp, ↓reduceIte, Nat.reduceEqDiff, e3]; rfl)), (by first | (simp only [zfp, ↓reduceIte, Nat.reduceEqDiff]; done) | (simp only [zfp, ↓reduceIte, Nat.reduceEqDiff]; rfl)), by simp only [cellsT]; exact (by first | (simp only [zfp, ↓reduceIte, Nat.reduceEqDiff, j2]; done) | (simp only [zfp, ↓reduceIte, Nat.reduceEqDiff, j2]; rfl)), by simp only [cellsT]; exact (by first | (simp only [zfp, ↓reduceIte, Nat.reduceEqDiff, j3]; done) | (simp only [zfp, ↓reduceIte, Nat.reduceEqDiff, j3]; rfl)), by omega⟩
end Go.Ab
