/- The statement NumInts, abstractly: the walk. Conditions: two ints. -/
import Derived.Test.YtdibanolokkniaaDoorAbnA19
namespace Go.Ab
open Go.Proofs
set_option maxRecDepth 100000
set_option linter.unusedSimpArgs false

theorem i_shlI (P : Program) (t : TypeId) (a : Int) (k : IntKind) (K : Nat) (hK : K ≤ 64) (h : -9223372036854775808 ≤ a * 2 ^ K) (h' : a * 2 ^ K < 9223372036854775808) : binA P .shl t (.int .i64 a) (.int k (K : Int)) = some (.int .i64 (a * 2 ^ K)) := by
  have e : IntKind.i64.wrap (a * 2 ^ K) = a * 2 ^ K := by
    generalize a * 2 ^ K = x at *
    simp [IntKind.wrap, IntKind.bits, IntKind.signed]
    (repeat' split) <;> omega
  have hm : min ((K : Int).toNat) 64 = K := by omega
  simp only [binA, shA, IntKind.bits]
  rw [if_neg (by omega)]
  simp only [hm, e]
theorem i_shrI (P : Program) (t : TypeId) (a : Int) (k : IntKind) (K : Nat) (hK : K ≤ 64) : binA P .shr t (.int .i64 a) (.int k (K : Int)) = some (.int .i64 (a.fdiv (2 ^ K))) := by
  have hm : min ((K : Int).toNat) 64 = K := by omega
  simp only [binA, shA, IntKind.bits]
  rw [if_neg (by omega)]
  simp only [hm]
theorem i_quoZ (P : Program) (t : TypeId) (a b : Int) (hb : b ≠ 0) (h : -9223372036854775808 ≤ a.tdiv b) (h' : a.tdiv b < 9223372036854775808) : binA P .quo t (.int .i64 a) (.int .i64 b) = some (.int .i64 (a.tdiv b)) := by
  have e : IntKind.i64.wrap (a.tdiv b) = a.tdiv b := by
    generalize a.tdiv b = x at *
    simp [IntKind.wrap, IntKind.bits, IntKind.signed]
    (repeat' split) <;> omega
  simp only [binA, intA, if_true]
  rw [if_neg hb, e]
theorem op_shl (a : Int) (K : Nat) (ha : a.natAbs ≤ 2147483648) (hK : K < 30) : callQ (evalFn Tryd.prog cfg0 100000 12) 14 [.int .i64 9, encZ a, encZ (K : Int)] = some (.tup [encZ (a * 2 ^ K), .bool true]) := by
  have big := B12_big
  have na := isN_Z a (by omega)
  have nk := isN_Z (K : Int) (by omega)
  have h : (a * 2 ^ K).natAbs < B ^ 12 := by
    rw [Int.natAbs_mul, Int.natAbs_pow]
    have h1 : (2 : Int).natAbs ^ K ≤ 2 ^ 30 := Nat.pow_le_pow_right (by decide) (by omega)
    have h2 := Nat.mul_le_mul ha h1
    omega
  have := callQ_trees (f := 14) (vs := [.int .i64 9, encZ a, encZ (K : Int)]) rfl (op9_eq 100000 6 (Nat.le_refl _) na nk)
  rw [shZ_up, madeV_fit h] at this
  exact this
theorem fdiv_abs (a : Int) (K : Nat) : (a.fdiv (2 ^ K)).natAbs ≤ a.natAbs := by
  rw [← shZ_down]
  by_cases h : a < 0
  · rw [← down_neg a K h, sgn_abs]
    have := Nat.div_le_self (a.natAbs - 1) (2 ^ K)
    omega
  · rw [← down_pos a K h, sgn_abs]
    exact Nat.div_le_self _ _
theorem op_shr (a : Int) (K : Nat) (ha : a.natAbs ≤ 2147483648) (hK : K < 30) : callQ (evalFn Tryd.prog cfg0 100000 12) 14 [.int .i64 10, encZ a, encZ (K : Int)] = some (.tup [encZ (a.fdiv (2 ^ K)), .bool true]) := by
  have big := B12_big
  have na := isN_Z a (by omega)
  have nk := isN_Z (K : Int) (by omega)
  have h := fdiv_abs a K
  have := callQ_trees (f := 14) (vs := [.int .i64 10, encZ a, encZ (K : Int)]) rfl (op10_eq 100000 6 (Nat.le_refl _) na nk)
  rw [shZ_down, madeV_fit (by omega)] at this
  exact this
theorem shl_fit (a : Int) (K : Nat) (ha : a.natAbs ≤ 2147483648) (hK : K < 30) : -4611686018427387904 ≤ a * 2 ^ K ∧ a * 2 ^ K ≤ 4611686018427387904 := by
  have h : (a * 2 ^ K).natAbs ≤ 2147483648 * 2 ^ 30 := by
    rw [Int.natAbs_mul, Int.natAbs_pow]
    have h1 : (2 : Int).natAbs ^ K ≤ 2 ^ 30 := Nat.pow_le_pow_right (by decide) (by omega)
    exact Nat.mul_le_mul ha h1
  omega
set_option maxHeartbeats 16000000 in
theorem ints_eq (p q : Int) : evalFn Tryd.prog cfg0 100000 13 4 [.tree (.int .i64 p), .tree (.int .i64 q)] = some (.tree (.bool true), [[], []]) := by
  rw [evalFn_go _ Tryd.func4 (by unfold Tryd.f4; rfl) (by unfold Tryd.f4; decide) (Nat.le_of_ble_eq_true (by unfold Tryd.f4; rfl)) (by kernel_rfl)]
  have big := B12_big
  have w := cAwakeN
  have hp := place_range p 4294967296 (by decide)
  have hq := place_range q 4294967296 (by decide)
  have hk := place_range q 30 (by decide)
  have c0 := fun D s => cPlaceB 100000 11 p 4294967296 (by decide) (by decide) D s
  have c1 := fun D s => cPlaceB 100000 11 q 4294967296 (by decide) (by decide) D s
  have c2 := fun D s => cPlaceB 100000 11 q 30 (by decide) (by decide) D s
  have s0 := i_sub Tryd.prog 3 (placeN p 4294967296) 2147483648 (by omega) (by omega)
  have s1 := i_sub Tryd.prog 3 (placeN q 4294967296) 2147483648 (by omega) (by omega)
  obtain ⟨a, hA⟩ : ∃ a, placeN p 4294967296 - 2147483648 = a := ⟨_, rfl⟩
  obtain ⟨b, hB⟩ : ∃ b, placeN q 4294967296 - 2147483648 = b := ⟨_, rfl⟩
  obtain ⟨K, hK⟩ : ∃ K : Nat, placeN q 30 = (K : Int) := ⟨(placeN q 30).toNat, by omega⟩
  rw [hA] at s0
  rw [hB] at s1
  rw [hK] at c2 hk
  have ha : a.natAbs ≤ 2147483648 := by omega
  have hb : b.natAbs ≤ 2147483648 := by omega
  clear hp hq
  have o1 := fun D s => cOf64 100000 9 (Nat.le_refl _) a (by omega) (by omega) D s
  have o2 := fun D s => cOf64 100000 9 (Nat.le_refl _) b (by omega) (by omega) D s
  have oK := qOf64 100000 9 (Nat.le_refl _) (K : Int) (by omega) (by omega)
  have m := mul_fit a b ha hb
  have t1 := i_add Tryd.prog 3 a b (by omega) (by omega)
  have t2 := i_sub Tryd.prog 3 a b (by omega) (by omega)
  have t3 := i_mul Tryd.prog 3 a b (by omega) (by omega)
  have t6 := and_I a b ha hb Tryd.prog 3
  have t7 := or_I a b ha hb Tryd.prog 3
  have t8 := xor_I a b ha hb Tryd.prog 3
  have w0 : wantI a b 1 = [.int .i64 (a + b), .int .i64 (a - b), .int .i64 (a * b), .int .i64 0, .int .i64 0, .int .i64 (logZ 6 a b), .int .i64 (logZ 7 a b), .int .i64 (logZ 8 a b)] := by
    simp [wantI]
  simp only [den_seq, den_region, den_regionT, kill_nil, kill_cons, killM_none, killM_some, fr_move, fr_assign, fr_pick, fr_bin, fr_un, fr_conv, fr_extract, fr_load, fr_store, fr_fa, fr_fd, fr_ia, fr_index, fr_slice, fr_build, fr_bs, fr_box, fr_nil, fr_blt, fr_tmp, fr_call, fr_callg, fr_alloc, fr_allocg, fr_make, fr_makeg, keep0, callQQ_f, callQQ_t, Nat.reduceBEq, Bool.or_self, Bool.or_false, Bool.or_true, Bool.and_true, Bool.and_false, Bool.true_and, Bool.false_and, Option.isNone_none, Option.isNone_some, Option.isSome_some, Option.isSome_none, den_ret, den_skip, den_label, den_exit, den_block, den_scope, den_condV, condV_bool, ops1_cons, ops1_guarded, guardV_bool, guardV_tup, guardD_0, guardD_s, ops1_nil, seqK_normal, seqK_ret, seqK_exit, blockK_normal, blockK_exit, blockK_ret, loopK_normal, loopK_exit, loopK_ret, finK_normal, finK_ret, opK_some, opA_move, opA_assign, opA_pick, pickA_bool, opA_len, opA_bin, opA_un, opA_ia, opA_load, opA_store, opA_conv, opA_make, opA_append, opA_copy, opA_max, opA_min, opA_slice, opA_call, opA_callq, opA_extract, extA_tup, Option.getD_some, Option.getD_none, setO_some, setO_none, ev_tmp, ev_int, ev_bool, ev_nil, ev_fn, upd_at, Option.map_some, Option.map_none, Option.bind_some, List.map_cons, List.map_nil, List.cons_append, List.nil_append, ↓reduceIte, Nat.reduceEqDiff, Nat.reduceAdd, decide_true, decide_false, Bool.true_eq_false, Bool.false_eq_true, env0, List.getElem?_cons_zero, List.getElem?_cons_succ, len22, lenN22, k_lss, k_leq, k_gtr, k_geq, k_eql, k_neq, ia22, ld31, conv31_40, conv40_31, opA_box, opA_alloc, opA_fa, opA_fd, opA_build, box_agg, dead_t, ld_ptr, ldE_24, ldE_4, ldE_22, st_24, stE_buf, fa_0, fa_1, faE_buf, bd_0, bd_2, bd_2R, fd_1, zero24, Nat.zero_add, st0_2, c0, c1, s0, s1, o1, o2, st_Z, t1, t2, t3, t6, t7, t8, bd_33, zero33, st_33, stW_buf, encZ_fold, den_loop]
  refine loop_ends (X := Nat) (fun x env s => 1 ≤ x ∧ x ≤ 9 ∧ env 10 = .int .i64 (x : Int) ∧ env 1 = .int .i64 q ∧ env 5 = .int .i64 a ∧ env 6 = .int .i64 b ∧ env 7 = .ptr 7 1 0 ∧ env 8 = .ptr 8 1 0 ∧ env 9 = .ptr 9 1 0 ∧ s 7 = ⟨1, .buf [.bool (decide (a < 0)), encR a.natAbs]⟩ ∧ s 8 = ⟨1, .buf [.bool (decide (b < 0)), encR b.natAbs]⟩ ∧ s 9 = ⟨1, .buf (wantI a b x)⟩ ∧ (s 16).t = 0 ∧ (s 18).t = 0) (fun x => 9 - x) (fun _ => (.tree (.bool true), [[], []])) ?_ 100000 1 _ _ (by decide) ⟨by decide, by decide, by simp only [upd_at, ↓reduceIte, Nat.reduceEqDiff]; rfl, rfl, by simp only [upd_at, ↓reduceIte, Nat.reduceEqDiff], by simp only [upd_at, ↓reduceIte, Nat.reduceEqDiff], by simp only [upd_at, ↓reduceIte, Nat.reduceEqDiff], by simp only [upd_at, ↓reduceIte, Nat.reduceEqDiff], by simp only [upd_at, ↓reduceIte, Nat.reduceEqDiff], by simp only [upd_at, ↓reduceIte, Nat.reduceEqDiff], by simp only [upd_at, ↓reduceIte, Nat.reduceEqDiff], by rw [w0]; simp only [upd_at, ↓reduceIte, Nat.reduceEqDiff], by simp only [upd_at, ↓reduceIte, Nat.reduceEqDiff, dead_t], by simp only [upd_at, ↓reduceIte, Nat.reduceEqDiff, dead_t]⟩
  clear c0 c1 s0 s1 o1 o2 t1 t2 t3 t6 t7 t8 w0 hA hB
  intro k x hx ih env s ⟨x1, x9, e10, e1, e5, e6, e7, e8, e9, j7, j8, j9, t16, t18⟩
  have a1 := i_add Tryd.prog 3 (x : Int) 1 (by omega) (by omega)
  have a2 := i_sub Tryd.prog 3 (x : Int) 1 (by omega) (by omega)
  by_cases h9 : x = 9
  · subst h9
    have g9 : ¬ ((9 : Nat) : Int) ≤ 8 := by decide
    clear ih
    have u9 := op_shl a K ha (by omega)
    have u10 := op_shr a K ha (by omega)
    have f1 := shl_fit a K ha (by omega)
    have f2 := fdiv_abs a K
    have i9 := fun D s => int_res (a * 2 ^ K) (by omega) (by omega) D s
    have i10 := fun D s => int_res (a.fdiv (2 ^ K)) (by omega) (by omega) D s
    have cv := fun s => conv3_42 s K (by omega)
    have cv0 := conv3_42 dead K (by omega)
    have sl := i_shlI Tryd.prog 3 a .u64 K (by omega) (by omega) (by omega)
    have sr := i_shrI Tryd.prog 3 a .u64 K (by omega)
    have na := isN_Z a (by omega)
    have nb := isN_Z b (by omega)
    have w1 := fun D s => cNcmp 100000 8 (Nat.le_refl _) na nb D s
    have r1 := fun D s => cRof64 100000 9 (Nat.le_refl _) a (by omega) (by omega) D s
    have r2 := fun D s => cRof64 100000 9 (Nat.le_refl _) b (by omega) (by omega) D s
    have w2 := fun D s => cRncmp 100000 8 (Nat.le_refl _) (isN_can .l a (by omega)) (isN_can .l b (by omega)) D s
    have q1 : (a * 2 ^ K == a * 2 ^ K) = true := beq_self_eq_true _
    have q2 : (a.fdiv (2 ^ K) == a.fdiv (2 ^ K)) = true := beq_self_eq_true _
    have q3 : (cmpI a b == cmpI a b) = true := beq_self_eq_true _
    simp only [den_seq, den_region, den_regionT, kill_nil, kill_cons, killM_none, killM_some, fr_move, fr_assign, fr_pick, fr_bin, fr_un, fr_conv, fr_extract, fr_load, fr_store, fr_fa, fr_fd, fr_ia, fr_index, fr_slice, fr_build, fr_bs, fr_box, fr_nil, fr_blt, fr_tmp, fr_call, fr_callg, fr_alloc, fr_allocg, fr_make, fr_makeg, keep0, callQQ_f, callQQ_t, Nat.reduceBEq, Bool.or_self, Bool.or_false, Bool.or_true, Bool.and_true, Bool.and_false, Bool.true_and, Bool.false_and, Option.isNone_none, Option.isNone_some, Option.isSome_some, Option.isSome_none, den_ret, den_skip, den_label, den_exit, den_block, den_scope, den_condV, condV_bool, ops1_cons, ops1_guarded, guardV_bool, guardV_tup, guardD_0, guardD_s, ops1_nil, seqK_normal, seqK_ret, seqK_exit, blockK_normal, blockK_exit, blockK_ret, loopK_normal, loopK_exit, loopK_ret, finK_normal, finK_ret, opK_some, opA_move, opA_assign, opA_pick, pickA_bool, opA_len, opA_bin, opA_un, opA_ia, opA_load, opA_store, opA_conv, opA_make, opA_append, opA_copy, opA_max, opA_min, opA_slice, opA_call, opA_callq, opA_extract, extA_tup, Option.getD_some, Option.getD_none, setO_some, setO_none, ev_tmp, ev_int, ev_bool, ev_nil, ev_fn, upd_at, Option.map_some, Option.map_none, Option.bind_some, List.map_cons, List.map_nil, List.cons_append, List.nil_append, ↓reduceIte, Nat.reduceEqDiff, Nat.reduceAdd, decide_true, decide_false, Bool.true_eq_false, Bool.false_eq_true, env0, List.getElem?_cons_zero, List.getElem?_cons_succ, len22, lenN22, k_lss, k_leq, k_gtr, k_geq, k_eql, k_neq, ia22, ld31, conv31_40, conv40_31, opA_box, opA_alloc, opA_fa, opA_fd, opA_build, box_agg, dead_t, ld_ptr, ldE_24, ldE_4, ldE_22, st_24, stE_buf, fa_0, fa_1, faE_buf, bd_0, bd_2, bd_2R, fd_1, zero24, Nat.zero_add, e10, e1, e5, e6, e7, e8, e9, j7, j8, j9, t16, t18, g9, c2, oK, u9, u10, ext_0, ext_1, st_Z, encZ_fold, i9, i10, cv, cv0, sl, sr, q1, q2, q3, w1, r1, r2, w2, w]
    exact finish_b _ _ _ _ _ _ _ (by simp only [upd_at, ↓reduceIte]) rfl
  have g8 : (x : Int) ≤ 8 := by omega
  have nx := fun env s h => ih (x + 1) env s (by omega) rfl h
  clear ih
  by_cases h45 : x = 4 ∨ x = 5
  · by_cases hb0 : b = 0
    · have on := fun D s => op_none a b ha hb x h45 hb0 D s
      have i0 := fun D s => int_res 0 (by decide) (by decide) D s
      have z0 : (b == 0) = true := by rw [beq_iff_eq]; exact hb0
      have wn := want_next a b x (.inr hb0)
      rcases h45 with rfl | rfl
      · have f4 : (((4 : Nat) : Int) == 4) = true := rfl
        simp only [den_seq, den_region, den_regionT, kill_nil, kill_cons, killM_none, killM_some, fr_move, fr_assign, fr_pick, fr_bin, fr_un, fr_conv, fr_extract, fr_load, fr_store, fr_fa, fr_fd, fr_ia, fr_index, fr_slice, fr_build, fr_bs, fr_box, fr_nil, fr_blt, fr_tmp, fr_call, fr_callg, fr_alloc, fr_allocg, fr_make, fr_makeg, keep0, callQQ_f, callQQ_t, Nat.reduceBEq, Bool.or_self, Bool.or_false, Bool.or_true, Bool.and_true, Bool.and_false, Bool.true_and, Bool.false_and, Option.isNone_none, Option.isNone_some, Option.isSome_some, Option.isSome_none, den_ret, den_skip, den_label, den_exit, den_block, den_scope, den_condV, condV_bool, ops1_cons, ops1_guarded, guardV_bool, guardV_tup, guardD_0, guardD_s, ops1_nil, seqK_normal, seqK_ret, seqK_exit, blockK_normal, blockK_exit, blockK_ret, loopK_normal, loopK_exit, loopK_ret, finK_normal, finK_ret, opK_some, opA_move, opA_assign, opA_pick, pickA_bool, opA_len, opA_bin, opA_un, opA_ia, opA_load, opA_store, opA_conv, opA_make, opA_append, opA_copy, opA_max, opA_min, opA_slice, opA_call, opA_callq, opA_extract, extA_tup, Option.getD_some, Option.getD_none, setO_some, setO_none, ev_tmp, ev_int, ev_bool, ev_nil, ev_fn, upd_at, Option.map_some, Option.map_none, Option.bind_some, List.map_cons, List.map_nil, List.cons_append, List.nil_append, ↓reduceIte, Nat.reduceEqDiff, Nat.reduceAdd, decide_true, decide_false, Bool.true_eq_false, Bool.false_eq_true, env0, List.getElem?_cons_zero, List.getElem?_cons_succ, len22, lenN22, k_lss, k_leq, k_gtr, k_geq, k_eql, k_neq, ia22, ld31, conv31_40, conv40_31, opA_box, opA_alloc, opA_fa, opA_fd, opA_build, box_agg, dead_t, ld_ptr, ldE_24, ldE_4, ldE_22, st_24, stE_buf, fa_0, fa_1, faE_buf, bd_0, bd_2, bd_2R, fd_1, zero24, Nat.zero_add, e10, e1, e5, e6, e7, e8, e9, j7, j8, j9, g8, on, i0, ext_0, ext_1, st_Z, encZ_fold, z0, f4, a1]
        refine nx _ _ ⟨by omega, by omega, ?_, ?_, ?_, ?_, ?_, ?_, ?_, ?_, ?_, ?_, ?_, ?_⟩
        · simp only [upd_at, ↓reduceIte, Nat.reduceEqDiff]; rfl
        · simp only [upd_at, ↓reduceIte, Nat.reduceEqDiff, e1]
        · simp only [upd_at, ↓reduceIte, Nat.reduceEqDiff, e5]
        · simp only [upd_at, ↓reduceIte, Nat.reduceEqDiff, e6]
        · simp only [upd_at, ↓reduceIte, Nat.reduceEqDiff, e7]
        · simp only [upd_at, ↓reduceIte, Nat.reduceEqDiff, e8]
        · simp only [upd_at, ↓reduceIte, Nat.reduceEqDiff, e9]
        · simp only [upd_at, ↓reduceIte, Nat.reduceEqDiff, j7]
        · simp only [upd_at, ↓reduceIte, Nat.reduceEqDiff, j8]
        · simp only [upd_at, ↓reduceIte, Nat.reduceEqDiff, j9, wn]
        · simp only [upd_at, ↓reduceIte, Nat.reduceEqDiff, t16]
        · simp only [upd_at, ↓reduceIte, Nat.reduceEqDiff, t18]
      · have f4 : (((5 : Nat) : Int) == 4) = false := rfl
        have f5 : (((5 : Nat) : Int) == 5) = true := rfl
        simp only [den_seq, den_region, den_regionT, kill_nil, kill_cons, killM_none, killM_some, fr_move, fr_assign, fr_pick, fr_bin, fr_un, fr_conv, fr_extract, fr_load, fr_store, fr_fa, fr_fd, fr_ia, fr_index, fr_slice, fr_build, fr_bs, fr_box, fr_nil, fr_blt, fr_tmp, fr_call, fr_callg, fr_alloc, fr_allocg, fr_make, fr_makeg, keep0, callQQ_f, callQQ_t, Nat.reduceBEq, Bool.or_self, Bool.or_false, Bool.or_true, Bool.and_true, Bool.and_false, Bool.true_and, Bool.false_and, Option.isNone_none, Option.isNone_some, Option.isSome_some, Option.isSome_none, den_ret, den_skip, den_label, den_exit, den_block, den_scope, den_condV, condV_bool, ops1_cons, ops1_guarded, guardV_bool, guardV_tup, guardD_0, guardD_s, ops1_nil, seqK_normal, seqK_ret, seqK_exit, blockK_normal, blockK_exit, blockK_ret, loopK_normal, loopK_exit, loopK_ret, finK_normal, finK_ret, opK_some, opA_move, opA_assign, opA_pick, pickA_bool, opA_len, opA_bin, opA_un, opA_ia, opA_load, opA_store, opA_conv, opA_make, opA_append, opA_copy, opA_max, opA_min, opA_slice, opA_call, opA_callq, opA_extract, extA_tup, Option.getD_some, Option.getD_none, setO_some, setO_none, ev_tmp, ev_int, ev_bool, ev_nil, ev_fn, upd_at, Option.map_some, Option.map_none, Option.bind_some, List.map_cons, List.map_nil, List.cons_append, List.nil_append, ↓reduceIte, Nat.reduceEqDiff, Nat.reduceAdd, decide_true, decide_false, Bool.true_eq_false, Bool.false_eq_true, env0, List.getElem?_cons_zero, List.getElem?_cons_succ, len22, lenN22, k_lss, k_leq, k_gtr, k_geq, k_eql, k_neq, ia22, ld31, conv31_40, conv40_31, opA_box, opA_alloc, opA_fa, opA_fd, opA_build, box_agg, dead_t, ld_ptr, ldE_24, ldE_4, ldE_22, st_24, stE_buf, fa_0, fa_1, faE_buf, bd_0, bd_2, bd_2R, fd_1, zero24, Nat.zero_add, e10, e1, e5, e6, e7, e8, e9, j7, j8, j9, g8, on, i0, ext_0, ext_1, st_Z, encZ_fold, z0, f4, f5, a1]
        refine nx _ _ ⟨by omega, by omega, ?_, ?_, ?_, ?_, ?_, ?_, ?_, ?_, ?_, ?_, ?_, ?_⟩
        · simp only [upd_at, ↓reduceIte, Nat.reduceEqDiff]; rfl
        · simp only [upd_at, ↓reduceIte, Nat.reduceEqDiff, e1]
        · simp only [upd_at, ↓reduceIte, Nat.reduceEqDiff, e5]
        · simp only [upd_at, ↓reduceIte, Nat.reduceEqDiff, e6]
        · simp only [upd_at, ↓reduceIte, Nat.reduceEqDiff, e7]
        · simp only [upd_at, ↓reduceIte, Nat.reduceEqDiff, e8]
        · simp only [upd_at, ↓reduceIte, Nat.reduceEqDiff, e9]
        · simp only [upd_at, ↓reduceIte, Nat.reduceEqDiff, j7]
        · simp only [upd_at, ↓reduceIte, Nat.reduceEqDiff, j8]
        · simp only [upd_at, ↓reduceIte, Nat.reduceEqDiff, j9, wn]
        · simp only [upd_at, ↓reduceIte, Nat.reduceEqDiff, t16]
        · simp only [upd_at, ↓reduceIte, Nat.reduceEqDiff, t18]
    · have z0 : (b == 0) = false := by rw [beq_eq_false_iff_ne]; exact hb0
      have hf := res_fit a b ha hb x
      have on := fun D s => op_res a b ha hb x x1 (by omega) (.inr hb0) D s
      have i0 := fun D s => int_res (resI a b x) hf.1 hf.2 D s
      rcases h45 with rfl | rfl
      · have f4 : (((4 : Nat) : Int) == 4) = true := rfl
        have w4 := want_4 a b hb0
        have w5 : (wantI a b 5)[3]? = some (.int .i64 (resI a b 4)) := by simp [wantI, resI, hb0]
        have dq := i_quoZ Tryd.prog 3 a b hb0 hf.1 hf.2
        have ne : (resI a b 4 != resI a b 4) = false := bne_self_eq_false _
        have z1 : (0 : Int) ≤ ((4 : Nat) : Int) - 1 ∧ ((4 : Nat) : Int) - 1 < 8 := by decide
        have z2 : (((4 : Nat) : Int) - 1).toNat = 3 := rfl
        have z3 : (3 : Nat) < 8 := by decide
        have z4 : (0 : Int) ≤ 3 ∧ (3 : Int) < 8 := by decide
        have z5 : Int.toNat 3 = 3 := rfl
        simp only [den_seq, den_region, den_regionT, kill_nil, kill_cons, killM_none, killM_some, fr_move, fr_assign, fr_pick, fr_bin, fr_un, fr_conv, fr_extract, fr_load, fr_store, fr_fa, fr_fd, fr_ia, fr_index, fr_slice, fr_build, fr_bs, fr_box, fr_nil, fr_blt, fr_tmp, fr_call, fr_callg, fr_alloc, fr_allocg, fr_make, fr_makeg, keep0, callQQ_f, callQQ_t, Nat.reduceBEq, Bool.or_self, Bool.or_false, Bool.or_true, Bool.and_true, Bool.and_false, Bool.true_and, Bool.false_and, Option.isNone_none, Option.isNone_some, Option.isSome_some, Option.isSome_none, den_ret, den_skip, den_label, den_exit, den_block, den_scope, den_condV, condV_bool, ops1_cons, ops1_guarded, guardV_bool, guardV_tup, guardD_0, guardD_s, ops1_nil, seqK_normal, seqK_ret, seqK_exit, blockK_normal, blockK_exit, blockK_ret, loopK_normal, loopK_exit, loopK_ret, finK_normal, finK_ret, opK_some, opA_move, opA_assign, opA_pick, pickA_bool, opA_len, opA_bin, opA_un, opA_ia, opA_load, opA_store, opA_conv, opA_make, opA_append, opA_copy, opA_max, opA_min, opA_slice, opA_call, opA_callq, opA_extract, extA_tup, Option.getD_some, Option.getD_none, setO_some, setO_none, ev_tmp, ev_int, ev_bool, ev_nil, ev_fn, upd_at, Option.map_some, Option.map_none, Option.bind_some, List.map_cons, List.map_nil, List.cons_append, List.nil_append, ↓reduceIte, Nat.reduceEqDiff, Nat.reduceAdd, decide_true, decide_false, Bool.true_eq_false, Bool.false_eq_true, env0, List.getElem?_cons_zero, List.getElem?_cons_succ, len22, lenN22, k_lss, k_leq, k_gtr, k_geq, k_eql, k_neq, ia22, ld31, conv31_40, conv40_31, opA_box, opA_alloc, opA_fa, opA_fd, opA_build, box_agg, dead_t, ld_ptr, ldE_24, ldE_4, ldE_22, st_24, stE_buf, fa_0, fa_1, faE_buf, bd_0, bd_2, bd_2R, fd_1, zero24, Nat.zero_add, e10, e1, e5, e6, e7, e8, e9, j7, j8, j9, g8, on, i0, ext_0, ext_1, st_Z, encZ_fold, z0, f4, a1, a2, dq, ia_33, iaE_buf, z4, z5, st_3i, stB_buf, want_len, w4, ldE_3i, w5, z1, z2, z3, and_self, ne, unA_not', Bool.not_true, Bool.not_false]
        refine nx _ _ ⟨by omega, by omega, ?_, ?_, ?_, ?_, ?_, ?_, ?_, ?_, ?_, ?_, ?_, ?_⟩
        · simp only [upd_at, ↓reduceIte, Nat.reduceEqDiff]; rfl
        · simp only [upd_at, ↓reduceIte, Nat.reduceEqDiff, e1]
        · simp only [upd_at, ↓reduceIte, Nat.reduceEqDiff, e5]
        · simp only [upd_at, ↓reduceIte, Nat.reduceEqDiff, e6]
        · simp only [upd_at, ↓reduceIte, Nat.reduceEqDiff, e7]
        · simp only [upd_at, ↓reduceIte, Nat.reduceEqDiff, e8]
        · simp only [upd_at, ↓reduceIte, Nat.reduceEqDiff, e9]
        · simp only [upd_at, ↓reduceIte, Nat.reduceEqDiff, j7]
        · simp only [upd_at, ↓reduceIte, Nat.reduceEqDiff, j8]
        · simp only [upd_at, ↓reduceIte, Nat.reduceEqDiff, j9]
        · simp only [upd_at, ↓reduceIte, Nat.reduceEqDiff, t16]
        · simp only [upd_at, ↓reduceIte, Nat.reduceEqDiff, t18]
      · have f4 : (((5 : Nat) : Int) == 4) = false := rfl
        have f5 : (((5 : Nat) : Int) == 5) = true := rfl
        have w4 := want_5 a b hb0
        have w5 : (wantI a b 6)[4]? = some (.int .i64 (resI a b 5)) := by simp [wantI, resI, hb0]
        have dq := i_remZ Tryd.prog 3 a b hb0
        have ne : (resI a b 5 != resI a b 5) = false := bne_self_eq_false _
        have z1 : (0 : Int) ≤ ((5 : Nat) : Int) - 1 ∧ ((5 : Nat) : Int) - 1 < 8 := by decide
        have z2 : (((5 : Nat) : Int) - 1).toNat = 4 := rfl
        have z3 : (4 : Nat) < 8 := by decide
        have z4 : (0 : Int) ≤ 4 ∧ (4 : Int) < 8 := by decide
        have z5 : Int.toNat 4 = 4 := rfl
        simp only [den_seq, den_region, den_regionT, kill_nil, kill_cons, killM_none, killM_some, fr_move, fr_assign, fr_pick, fr_bin, fr_un, fr_conv, fr_extract, fr_load, fr_store, fr_fa, fr_fd, fr_ia, fr_index, fr_slice, fr_build, fr_bs, fr_box, fr_nil, fr_blt, fr_tmp, fr_call, fr_callg, fr_alloc, fr_allocg, fr_make, fr_makeg, keep0, callQQ_f, callQQ_t, Nat.reduceBEq, Bool.or_self, Bool.or_false, Bool.or_true, Bool.and_true, Bool.and_false, Bool.true_and, Bool.false_and, Option.isNone_none, Option.isNone_some, Option.isSome_some, Option.isSome_none, den_ret, den_skip, den_label, den_exit, den_block, den_scope, den_condV, condV_bool, ops1_cons, ops1_guarded, guardV_bool, guardV_tup, guardD_0, guardD_s, ops1_nil, seqK_normal, seqK_ret, seqK_exit, blockK_normal, blockK_exit, blockK_ret, loopK_normal, loopK_exit, loopK_ret, finK_normal, finK_ret, opK_some, opA_move, opA_assign, opA_pick, pickA_bool, opA_len, opA_bin, opA_un, opA_ia, opA_load, opA_store, opA_conv, opA_make, opA_append, opA_copy, opA_max, opA_min, opA_slice, opA_call, opA_callq, opA_extract, extA_tup, Option.getD_some, Option.getD_none, setO_some, setO_none, ev_tmp, ev_int, ev_bool, ev_nil, ev_fn, upd_at, Option.map_some, Option.map_none, Option.bind_some, List.map_cons, List.map_nil, List.cons_append, List.nil_append, ↓reduceIte, Nat.reduceEqDiff, Nat.reduceAdd, decide_true, decide_false, Bool.true_eq_false, Bool.false_eq_true, env0, List.getElem?_cons_zero, List.getElem?_cons_succ, len22, lenN22, k_lss, k_leq, k_gtr, k_geq, k_eql, k_neq, ia22, ld31, conv31_40, conv40_31, opA_box, opA_alloc, opA_fa, opA_fd, opA_build, box_agg, dead_t, ld_ptr, ldE_24, ldE_4, ldE_22, st_24, stE_buf, fa_0, fa_1, faE_buf, bd_0, bd_2, bd_2R, fd_1, zero24, Nat.zero_add, e10, e1, e5, e6, e7, e8, e9, j7, j8, j9, g8, on, i0, ext_0, ext_1, st_Z, encZ_fold, z0, f4, f5, a1, a2, dq, ia_33, iaE_buf, z4, z5, st_3i, stB_buf, want_len, w4, ldE_3i, w5, z1, z2, z3, and_self, ne, unA_not', Bool.not_true, Bool.not_false]
        refine nx _ _ ⟨by omega, by omega, ?_, ?_, ?_, ?_, ?_, ?_, ?_, ?_, ?_, ?_, ?_, ?_⟩
        · simp only [upd_at, ↓reduceIte, Nat.reduceEqDiff]; rfl
        · simp only [upd_at, ↓reduceIte, Nat.reduceEqDiff, e1]
        · simp only [upd_at, ↓reduceIte, Nat.reduceEqDiff, e5]
        · simp only [upd_at, ↓reduceIte, Nat.reduceEqDiff, e6]
        · simp only [upd_at, ↓reduceIte, Nat.reduceEqDiff, e7]
        · simp only [upd_at, ↓reduceIte, Nat.reduceEqDiff, e8]
        · simp only [upd_at, ↓reduceIte, Nat.reduceEqDiff, e9]
        · simp only [upd_at, ↓reduceIte, Nat.reduceEqDiff, j7]
        · simp only [upd_at, ↓reduceIte, Nat.reduceEqDiff, j8]
        · simp only [upd_at, ↓reduceIte, Nat.reduceEqDiff, j9]
        · simp only [upd_at, ↓reduceIte, Nat.reduceEqDiff, t16]
        · simp only [upd_at, ↓reduceIte, Nat.reduceEqDiff, t18]
  · have on := fun D s => op_res a b ha hb x x1 (by omega) (.inl h45) D s
    have hf := res_fit a b ha hb x
    have i0 := fun D s => int_res (resI a b x) hf.1 hf.2 D s
    have wn := want_next a b x (.inl h45)
    have wa := want_at a b x x1 (by omega) h45
    have f4 : ((x : Int) == 4) = false := by rw [beq_eq_false_iff_ne]; omega
    have f5 : ((x : Int) == 5) = false := by rw [beq_eq_false_iff_ne]; omega
    have ne : (resI a b x != resI a b x) = false := bne_self_eq_false _
    have z1 : (0 : Int) ≤ (x : Int) - 1 ∧ (x : Int) - 1 < 8 := by omega
    have z2 : ((x : Int) - 1).toNat = x - 1 := by omega
    simp only [den_seq, den_region, den_regionT, kill_nil, kill_cons, killM_none, killM_some, fr_move, fr_assign, fr_pick, fr_bin, fr_un, fr_conv, fr_extract, fr_load, fr_store, fr_fa, fr_fd, fr_ia, fr_index, fr_slice, fr_build, fr_bs, fr_box, fr_nil, fr_blt, fr_tmp, fr_call, fr_callg, fr_alloc, fr_allocg, fr_make, fr_makeg, keep0, callQQ_f, callQQ_t, Nat.reduceBEq, Bool.or_self, Bool.or_false, Bool.or_true, Bool.and_true, Bool.and_false, Bool.true_and, Bool.false_and, Option.isNone_none, Option.isNone_some, Option.isSome_some, Option.isSome_none, den_ret, den_skip, den_label, den_exit, den_block, den_scope, den_condV, condV_bool, ops1_cons, ops1_guarded, guardV_bool, guardV_tup, guardD_0, guardD_s, ops1_nil, seqK_normal, seqK_ret, seqK_exit, blockK_normal, blockK_exit, blockK_ret, loopK_normal, loopK_exit, loopK_ret, finK_normal, finK_ret, opK_some, opA_move, opA_assign, opA_pick, pickA_bool, opA_len, opA_bin, opA_un, opA_ia, opA_load, opA_store, opA_conv, opA_make, opA_append, opA_copy, opA_max, opA_min, opA_slice, opA_call, opA_callq, opA_extract, extA_tup, Option.getD_some, Option.getD_none, setO_some, setO_none, ev_tmp, ev_int, ev_bool, ev_nil, ev_fn, upd_at, Option.map_some, Option.map_none, Option.bind_some, List.map_cons, List.map_nil, List.cons_append, List.nil_append, ↓reduceIte, Nat.reduceEqDiff, Nat.reduceAdd, decide_true, decide_false, Bool.true_eq_false, Bool.false_eq_true, env0, List.getElem?_cons_zero, List.getElem?_cons_succ, len22, lenN22, k_lss, k_leq, k_gtr, k_geq, k_eql, k_neq, ia22, ld31, conv31_40, conv40_31, opA_box, opA_alloc, opA_fa, opA_fd, opA_build, box_agg, dead_t, ld_ptr, ldE_24, ldE_4, ldE_22, st_24, stE_buf, fa_0, fa_1, faE_buf, bd_0, bd_2, bd_2R, fd_1, zero24, Nat.zero_add, e10, e1, e5, e6, e7, e8, e9, j7, j8, j9, g8, on, i0, ext_0, ext_1, st_Z, encZ_fold, f4, f5, a1, a2, ia_33, iaE_buf, want_len, ldE_3i, z1, z2, wa, and_self, ne, unA_not', Bool.not_true, Bool.not_false]
    refine nx _ _ ⟨by omega, by omega, ?_, ?_, ?_, ?_, ?_, ?_, ?_, ?_, ?_, ?_, ?_, ?_⟩
    · simp only [upd_at, ↓reduceIte, Nat.reduceEqDiff]; rfl
    · simp only [upd_at, ↓reduceIte, Nat.reduceEqDiff, e1]
    · simp only [upd_at, ↓reduceIte, Nat.reduceEqDiff, e5]
    · simp only [upd_at, ↓reduceIte, Nat.reduceEqDiff, e6]
    · simp only [upd_at, ↓reduceIte, Nat.reduceEqDiff, e7]
    · simp only [upd_at, ↓reduceIte, Nat.reduceEqDiff, e8]
    · simp only [upd_at, ↓reduceIte, Nat.reduceEqDiff, e9]
    · simp only [upd_at, ↓reduceIte, Nat.reduceEqDiff, j7]
    · simp only [upd_at, ↓reduceIte, Nat.reduceEqDiff, j8]
    · simp only [upd_at, ↓reduceIte, Nat.reduceEqDiff, j9, wn]
    · simp only [upd_at, ↓reduceIte, Nat.reduceEqDiff, t16]
    · simp only [upd_at, ↓reduceIte, Nat.reduceEqDiff, t18]
end Go.Ab
