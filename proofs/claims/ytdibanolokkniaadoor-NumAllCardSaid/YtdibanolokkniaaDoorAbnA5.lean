/- Op: sums, differences, products, quotients. Conditions: numbers that are shown. -/
import Derived.Test.YtdibanolokkniaaDoorAbnA4
namespace Go.Ab
open Go.Proofs
set_option maxRecDepth 100000
set_option linter.unusedSimpArgs false

theorem cAddC (n d : Nat) (hn : 100000 ≤ n) (g g' : Gk) (z z' : Int) (hlt : z.natAbs < B ^ 12) (hlt' : z'.natAbs < B ^ 12) (D : Nat) (s : St) : callA cfg0 (evalFn Tryd.prog cfg0 n (d+5)) D s 37 [canA g z, canA g' z'] = some (madeV (z + z'), s) :=
  callA_trees rfl (nadd_eq n d hn g g' z z' hlt hlt')
theorem cAddZ (n d : Nat) (hn : 100000 ≤ n) (g : Gk) (z z' : Int) (hlt : z.natAbs < B ^ 12) (hlt' : z'.natAbs < B ^ 12) (D : Nat) (s : St) : callA cfg0 (evalFn Tryd.prog cfg0 n (d+5)) D s 37 [canA g z, .agg [.bool (decide (z' < 0)), encR z'.natAbs]] = some (madeV (z + z'), s) :=
  cAddC n d hn g _ z z' hlt hlt' D s
theorem mul_sgn (a b : Int) : sgn (!(decide (a < 0) == decide (b < 0))) (a.natAbs * b.natAbs) = a * b := by
  have h := Int.natAbs_mul a b
  by_cases ha : a < 0 <;> by_cases hb : b < 0
  · have := Int.mul_pos_of_neg_of_neg ha hb
    simp only [ha, hb, decide_true, beq_self_eq_true, Bool.not_true, sgn, Bool.false_eq_true, if_false]
    rw [← h]; omega
  · have : a * b ≤ 0 := Int.mul_nonpos_of_nonpos_of_nonneg (by omega) (by omega)
    simp only [ha, hb, decide_true, decide_false, sgn, if_true, show (!(true == false)) = true from rfl]
    rw [← h]; omega
  · have : a * b ≤ 0 := Int.mul_nonpos_of_nonneg_of_nonpos (by omega) (by omega)
    simp only [ha, hb, decide_true, decide_false, sgn, if_true, show (!(false == true)) = true from rfl]
    rw [← h]; omega
  · have : 0 ≤ a * b := Int.mul_nonneg (by omega) (by omega)
    simp only [ha, hb, decide_false, beq_self_eq_true, Bool.not_true, sgn, Bool.false_eq_true, if_false]
    rw [← h]; omega
theorem nat_tdiv (x y : Nat) : (x : Int).tdiv (y : Int) = ((x / y : Nat) : Int) := rfl
theorem nat_tmod (x y : Nat) : (x : Int).tmod (y : Int) = ((x % y : Nat) : Int) := rfl
theorem abs_neg' {a : Int} (h : a < 0) : a = -(a.natAbs : Int) := by omega
theorem abs_pos' {a : Int} (h : ¬ a < 0) : a = (a.natAbs : Int) := by omega
theorem quo_sgn (a b : Int) : sgn (!(decide (a < 0) == decide (b < 0))) (a.natAbs / b.natAbs) = a.tdiv b := by
  by_cases ha : a < 0 <;> by_cases hb : b < 0 <;> simp only [ha, hb, decide_true, decide_false, beq_self_eq_true, Bool.not_true, sgn, Bool.false_eq_true, if_false, show (!(true == false)) = true from rfl, show (!(false == true)) = true from rfl, if_true]
  · have h1 := abs_neg' ha; have h2 := abs_neg' hb
    generalize a.natAbs = x at *; generalize b.natAbs = y at *
    subst h1 h2; rw [Int.neg_tdiv, Int.tdiv_neg, Int.neg_neg, nat_tdiv]
  · have h1 := abs_neg' ha; have h2 := abs_pos' hb
    generalize a.natAbs = x at *; generalize b.natAbs = y at *
    subst h1 h2; rw [Int.neg_tdiv, nat_tdiv]
  · have h1 := abs_pos' ha; have h2 := abs_neg' hb
    generalize a.natAbs = x at *; generalize b.natAbs = y at *
    subst h1 h2; rw [Int.tdiv_neg, nat_tdiv]
  · have h1 := abs_pos' ha; have h2 := abs_pos' hb
    generalize a.natAbs = x at *; generalize b.natAbs = y at *
    subst h1 h2; rw [nat_tdiv]
theorem rem_sgn (a b : Int) : sgn (decide (a < 0)) (a.natAbs % b.natAbs) = a.tmod b := by
  by_cases ha : a < 0 <;> by_cases hb : b < 0 <;> simp only [ha, decide_true, decide_false, sgn, Bool.false_eq_true, if_false, if_true]
  · have h1 := abs_neg' ha; have h2 := abs_neg' hb
    generalize a.natAbs = x at *; generalize b.natAbs = y at *
    subst h1 h2; rw [Int.neg_tmod, Int.tmod_neg, nat_tmod]
  · have h1 := abs_neg' ha; have h2 := abs_pos' hb
    generalize a.natAbs = x at *; generalize b.natAbs = y at *
    subst h1 h2; rw [Int.neg_tmod, nat_tmod]
  · have h1 := abs_pos' ha; have h2 := abs_neg' hb
    generalize a.natAbs = x at *; generalize b.natAbs = y at *
    subst h1 h2; rw [Int.tmod_neg, nat_tmod]
  · have h1 := abs_pos' ha; have h2 := abs_pos' hb
    generalize a.natAbs = x at *; generalize b.natAbs = y at *
    subst h1 h2; rw [nat_tmod]
theorem st0_3' (u v w : AV) : st0 [.tree u, .tree v, .tree w] = dead := by
  funext j
  match j with
  | 0 | 1 | 2 | _ + 3 => simp [st0, dead]

section
variable (n d : Nat) (hn : 100000 ≤ n) {w w' : AV} {z z' : Int} (hw : IsN w z) (hw' : IsN w' z')
include hn hw hw'
set_option maxHeartbeats 8000000
theorem op1_eq : evalFn Tryd.prog cfg0 n (d+6) 14 [.tree (.int .i64 1), .tree w, .tree w'] = some (.tree (madeV (z + z')), [[], [], []]) := by
  obtain ⟨g, c1⟩ := qOf n (d + 3) hw
  obtain ⟨g', c2⟩ := qOf n (d + 3) hw'
  have hlt := hw.lt
  have hlt' := hw'.lt
  obtain ⟨neg, g0, l, rfl, hl, hz⟩ := hw
  obtain ⟨neg', g0', l', rfl, hl', hz'⟩ := hw'
  rw [evalFn_go _ Tryd.func14 (by unfold Tryd.f14; rfl) (by unfold Tryd.f14; decide) (Nat.le_of_ble_eq_true (by unfold Tryd.f14; rfl)) (by kernel_rfl)]
  have c3 := fun D s => cAddC n d hn g g' z z' hlt hlt' D s
  simp only [den_seq, den_region, den_regionT, kill_nil, kill_cons, killM_none, killM_some, fr_move, fr_assign, fr_pick, fr_bin, fr_un, fr_conv, fr_extract, fr_load, fr_store, fr_fa, fr_fd, fr_ia, fr_index, fr_slice, fr_build, fr_bs, fr_box, fr_nil, fr_blt, fr_tmp, fr_call, fr_callg, fr_alloc, fr_allocg, fr_make, fr_makeg, keep0, callQQ_f, callQQ_t, Nat.reduceBEq, Bool.or_self, Bool.or_false, Bool.or_true, Bool.and_true, Bool.and_false, Bool.true_and, Bool.false_and, Option.isNone_none, Option.isNone_some, Option.isSome_some, Option.isSome_none, den_ret, den_skip, den_label, den_exit, den_block, den_scope, den_condV, condV_bool, ops1_cons, ops1_guarded, guardV_bool, guardV_tup, guardD_0, guardD_s, ops1_nil, seqK_normal, seqK_ret, seqK_exit, blockK_normal, blockK_exit, blockK_ret, loopK_normal, loopK_exit, loopK_ret, finK_normal, finK_ret, opK_some, opA_move, opA_assign, opA_pick, pickA_bool, opA_len, opA_bin, opA_un, opA_ia, opA_load, opA_store, opA_conv, opA_make, opA_append, opA_copy, opA_max, opA_min, opA_slice, opA_call, opA_callq, opA_extract, extA_tup, Option.getD_some, Option.getD_none, setO_some, setO_none, ev_tmp, ev_int, ev_bool, ev_nil, ev_fn, upd_at, Option.map_some, Option.map_none, Option.bind_some, List.map_cons, List.map_nil, List.cons_append, List.nil_append, ↓reduceIte, Nat.reduceEqDiff, Nat.reduceAdd, decide_true, decide_false, Bool.true_eq_false, Bool.false_eq_true, env0, List.getElem?_cons_zero, List.getElem?_cons_succ, len22, lenN22, k_lss, k_leq, k_gtr, k_geq, k_eql, k_neq, ia22, ld31, conv31_40, conv40_31, opA_box, opA_alloc, opA_fa, opA_fd, opA_build, box_agg, dead_t, ld_ptr, ldE_24, ldE_4, ldE_22, st_24, stE_buf, fa_0, fa_1, faE_buf, bd_0, bd_2, bd_2R, fd_1, zero24, Nat.zero_add, st0_3', c1, c2, Int.reduceBEq, c3, madeV_eq, ext_0, ext_1, st_Z]
  exact finish_ct _ _ 6 6 1 _ _ _ _ _ _ _ (by simp only [upd_at, ↓reduceIte, Nat.reduceEqDiff]) (by simp only [upd_at, ↓reduceIte, Nat.reduceEqDiff]) (by simp only [upd_at, ↓reduceIte, Nat.reduceEqDiff]) rfl
theorem op2_eq : evalFn Tryd.prog cfg0 n (d+6) 14 [.tree (.int .i64 2), .tree w, .tree w'] = some (.tree (madeV (z - z')), [[], [], []]) := by
  obtain ⟨g, c1⟩ := qOf n (d + 3) hw
  obtain ⟨g', c2⟩ := qOf n (d + 3) hw'
  have hlt := hw.lt
  have hlt' := hw'.lt
  obtain ⟨neg, g0, l, rfl, hl, hz⟩ := hw
  obtain ⟨neg', g0', l', rfl, hl', hz'⟩ := hw'
  rw [evalFn_go _ Tryd.func14 (by unfold Tryd.f14; rfl) (by unfold Tryd.f14; decide) (Nat.le_of_ble_eq_true (by unfold Tryd.f14; rfl)) (by kernel_rfl)]
  have c4 := fun D s => cNeg n (d + 2) hn (isN_can g' z' hlt') D s
  have c3 := fun D s => cAddZ n d hn g z (-z') hlt (by omega) D s
  rw [show z + -z' = z - z' by omega] at c3
  simp only [den_seq, den_region, den_regionT, kill_nil, kill_cons, killM_none, killM_some, fr_move, fr_assign, fr_pick, fr_bin, fr_un, fr_conv, fr_extract, fr_load, fr_store, fr_fa, fr_fd, fr_ia, fr_index, fr_slice, fr_build, fr_bs, fr_box, fr_nil, fr_blt, fr_tmp, fr_call, fr_callg, fr_alloc, fr_allocg, fr_make, fr_makeg, keep0, callQQ_f, callQQ_t, Nat.reduceBEq, Bool.or_self, Bool.or_false, Bool.or_true, Bool.and_true, Bool.and_false, Bool.true_and, Bool.false_and, Option.isNone_none, Option.isNone_some, Option.isSome_some, Option.isSome_none, den_ret, den_skip, den_label, den_exit, den_block, den_scope, den_condV, condV_bool, ops1_cons, ops1_guarded, guardV_bool, guardV_tup, guardD_0, guardD_s, ops1_nil, seqK_normal, seqK_ret, seqK_exit, blockK_normal, blockK_exit, blockK_ret, loopK_normal, loopK_exit, loopK_ret, finK_normal, finK_ret, opK_some, opA_move, opA_assign, opA_pick, pickA_bool, opA_len, opA_bin, opA_un, opA_ia, opA_load, opA_store, opA_conv, opA_make, opA_append, opA_copy, opA_max, opA_min, opA_slice, opA_call, opA_callq, opA_extract, extA_tup, Option.getD_some, Option.getD_none, setO_some, setO_none, ev_tmp, ev_int, ev_bool, ev_nil, ev_fn, upd_at, Option.map_some, Option.map_none, Option.bind_some, List.map_cons, List.map_nil, List.cons_append, List.nil_append, ↓reduceIte, Nat.reduceEqDiff, Nat.reduceAdd, decide_true, decide_false, Bool.true_eq_false, Bool.false_eq_true, env0, List.getElem?_cons_zero, List.getElem?_cons_succ, len22, lenN22, k_lss, k_leq, k_gtr, k_geq, k_eql, k_neq, ia22, ld31, conv31_40, conv40_31, opA_box, opA_alloc, opA_fa, opA_fd, opA_build, box_agg, dead_t, ld_ptr, ldE_24, ldE_4, ldE_22, st_24, stE_buf, fa_0, fa_1, faE_buf, bd_0, bd_2, bd_2R, fd_1, zero24, Nat.zero_add, st0_3', c1, c2, Int.reduceBEq, c4, c3, madeV_eq, ext_0, ext_1, st_Z]
  exact finish_ct _ _ 6 6 1 _ _ _ _ _ _ _ (by simp only [upd_at, ↓reduceIte, Nat.reduceEqDiff]) (by simp only [upd_at, ↓reduceIte, Nat.reduceEqDiff]) (by simp only [upd_at, ↓reduceIte, Nat.reduceEqDiff]) rfl
theorem op3_eq : evalFn Tryd.prog cfg0 n (d+6) 14 [.tree (.int .i64 3), .tree w, .tree w'] = some (.tree (madeV (z * z')), [[], [], []]) := by
  obtain ⟨g, c1⟩ := qOf n (d + 3) hw
  obtain ⟨g', c2⟩ := qOf n (d + 3) hw'
  have hlt := hw.lt
  have hlt' := hw'.lt
  obtain ⟨neg, g0, l, rfl, hl, hz⟩ := hw
  obtain ⟨neg', g0', l', rfl, hl', hz'⟩ := hw'
  rw [evalFn_go _ Tryd.func14 (by unfold Tryd.f14; rfl) (by unfold Tryd.f14; decide) (Nat.le_of_ble_eq_true (by unfold Tryd.f14; rfl)) (by kernel_rfl)]
  have en := bool_neq 4 tk4
  have c3 := qMul n (d + 3) hn (num_can g z hlt) (num_can g' z' hlt') (tree_L _ _) (tree_L _ _)
  have hp : z.natAbs * z'.natAbs < B ^ 24 := by rw [show (24 : Nat) = 12 + 12 from rfl, Nat.pow_add]; exact Nat.mul_lt_mul'' hlt hlt'
  have c4 := qMade n (d + 3) hn (num_R _ 24 (by decide) hp) (tree_R _) (!(decide (z < 0) == decide (z' < 0)))
  rw [mul_sgn] at c4
  simp only [den_seq, den_region, den_regionT, kill_nil, kill_cons, killM_none, killM_some, fr_move, fr_assign, fr_pick, fr_bin, fr_un, fr_conv, fr_extract, fr_load, fr_store, fr_fa, fr_fd, fr_ia, fr_index, fr_slice, fr_build, fr_bs, fr_box, fr_nil, fr_blt, fr_tmp, fr_call, fr_callg, fr_alloc, fr_allocg, fr_make, fr_makeg, keep0, callQQ_f, callQQ_t, Nat.reduceBEq, Bool.or_self, Bool.or_false, Bool.or_true, Bool.and_true, Bool.and_false, Bool.true_and, Bool.false_and, Option.isNone_none, Option.isNone_some, Option.isSome_some, Option.isSome_none, den_ret, den_skip, den_label, den_exit, den_block, den_scope, den_condV, condV_bool, ops1_cons, ops1_guarded, guardV_bool, guardV_tup, guardD_0, guardD_s, ops1_nil, seqK_normal, seqK_ret, seqK_exit, blockK_normal, blockK_exit, blockK_ret, loopK_normal, loopK_exit, loopK_ret, finK_normal, finK_ret, opK_some, opA_move, opA_assign, opA_pick, pickA_bool, opA_len, opA_bin, opA_un, opA_ia, opA_load, opA_store, opA_conv, opA_make, opA_append, opA_copy, opA_max, opA_min, opA_slice, opA_call, opA_callq, opA_extract, extA_tup, Option.getD_some, Option.getD_none, setO_some, setO_none, ev_tmp, ev_int, ev_bool, ev_nil, ev_fn, upd_at, Option.map_some, Option.map_none, Option.bind_some, List.map_cons, List.map_nil, List.cons_append, List.nil_append, ↓reduceIte, Nat.reduceEqDiff, Nat.reduceAdd, decide_true, decide_false, Bool.true_eq_false, Bool.false_eq_true, env0, List.getElem?_cons_zero, List.getElem?_cons_succ, len22, lenN22, k_lss, k_leq, k_gtr, k_geq, k_eql, k_neq, ia22, ld31, conv31_40, conv40_31, opA_box, opA_alloc, opA_fa, opA_fd, opA_build, box_agg, dead_t, ld_ptr, ldE_24, ldE_4, ldE_22, st_24, stE_buf, fa_0, fa_1, faE_buf, bd_0, bd_2, bd_2R, fd_1, zero24, Nat.zero_add, st0_3', c1, c2, Int.reduceBEq, en, c3, c4, madeV_eq, ext_0, ext_1, st_Z]
  exact finish_ct _ _ 6 6 1 _ _ _ _ _ _ _ (by simp only [upd_at, ↓reduceIte, Nat.reduceEqDiff]) (by simp only [upd_at, ↓reduceIte, Nat.reduceEqDiff]) (by simp only [upd_at, ↓reduceIte, Nat.reduceEqDiff]) rfl
theorem op4_eq : evalFn Tryd.prog cfg0 n (d+6) 14 [.tree (.int .i64 4), .tree w, .tree w'] = some (.tree (if z' = 0 then .tup [encZ 0, .bool false] else madeV (z.tdiv z')), [[], [], []]) := by
  obtain ⟨g, c1⟩ := qOf n (d + 3) hw
  obtain ⟨g', c2⟩ := qOf n (d + 3) hw'
  have hlt := hw.lt
  have hlt' := hw'.lt
  obtain ⟨neg, g0, l, rfl, hl, hz⟩ := hw
  obtain ⟨neg', g0', l', rfl, hl', hz'⟩ := hw'
  rw [evalFn_go _ Tryd.func14 (by unfold Tryd.f14; rfl) (by unfold Tryd.f14; decide) (Nat.le_of_ble_eq_true (by unfold Tryd.f14; rfl)) (by kernel_rfl)]
  by_cases h0 : z' = 0
  · have p0 : (((digs z'.natAbs).length : Int) == 0) = true := by rw [h0]; simp [digs_0]
    rw [if_pos h0, encZ_0]
    simp only [den_seq, den_region, den_regionT, kill_nil, kill_cons, killM_none, killM_some, fr_move, fr_assign, fr_pick, fr_bin, fr_un, fr_conv, fr_extract, fr_load, fr_store, fr_fa, fr_fd, fr_ia, fr_index, fr_slice, fr_build, fr_bs, fr_box, fr_nil, fr_blt, fr_tmp, fr_call, fr_callg, fr_alloc, fr_allocg, fr_make, fr_makeg, keep0, callQQ_f, callQQ_t, Nat.reduceBEq, Bool.or_self, Bool.or_false, Bool.or_true, Bool.and_true, Bool.and_false, Bool.true_and, Bool.false_and, Option.isNone_none, Option.isNone_some, Option.isSome_some, Option.isSome_none, den_ret, den_skip, den_label, den_exit, den_block, den_scope, den_condV, condV_bool, ops1_cons, ops1_guarded, guardV_bool, guardV_tup, guardD_0, guardD_s, ops1_nil, seqK_normal, seqK_ret, seqK_exit, blockK_normal, blockK_exit, blockK_ret, loopK_normal, loopK_exit, loopK_ret, finK_normal, finK_ret, opK_some, opA_move, opA_assign, opA_pick, pickA_bool, opA_len, opA_bin, opA_un, opA_ia, opA_load, opA_store, opA_conv, opA_make, opA_append, opA_copy, opA_max, opA_min, opA_slice, opA_call, opA_callq, opA_extract, extA_tup, Option.getD_some, Option.getD_none, setO_some, setO_none, ev_tmp, ev_int, ev_bool, ev_nil, ev_fn, upd_at, Option.map_some, Option.map_none, Option.bind_some, List.map_cons, List.map_nil, List.cons_append, List.nil_append, ↓reduceIte, Nat.reduceEqDiff, Nat.reduceAdd, decide_true, decide_false, Bool.true_eq_false, Bool.false_eq_true, env0, List.getElem?_cons_zero, List.getElem?_cons_succ, len22, lenN22, k_lss, k_leq, k_gtr, k_geq, k_eql, k_neq, ia22, ld31, conv31_40, conv40_31, opA_box, opA_alloc, opA_fa, opA_fd, opA_build, box_agg, dead_t, ld_ptr, ldE_24, ldE_4, ldE_22, st_24, stE_buf, fa_0, fa_1, faE_buf, bd_0, bd_2, bd_2R, fd_1, zero24, Nat.zero_add, st0_3', c1, c2, Int.reduceBEq, p0]
    exact finish_ct _ _ 6 6 1 _ _ _ _ _ _ _ (by simp only [upd_at, ↓reduceIte, Nat.reduceEqDiff]) (by simp only [upd_at, ↓reduceIte, Nat.reduceEqDiff]) (by simp only [upd_at, ↓reduceIte, Nat.reduceEqDiff]) rfl
  · have p0 : (((digs z'.natAbs).length : Int) == 0) = false := by
      rw [beq_eq_false_iff_ne]
      intro h
      have := (digs_len0 z'.natAbs).mp (by omega)
      omega
    rw [if_neg h0]
    have en := bool_neq 4 tk4
    have hz0 : z'.natAbs ≠ 0 := by omega
    have c3 := fun D s => cDivS n d hn D s (sh_L g (digs z.natAbs)) (sh_L g' (digs z'.natAbs)) (limbs_digs _) (limbs_digs _) (by have := digs_len _ 12 hlt; omega) (by have := digs_len _ 12 hlt'; omega)
    simp only [val_digs, if_neg hz0] at c3
    have c4 := fun D s => cMade n (d + 3) hn D s (num_R (z.natAbs / z'.natAbs) 12 (by decide) (Nat.lt_of_le_of_lt (Nat.div_le_self _ _) hlt)) (!(decide (z < 0) == decide (z' < 0)))
    rw [quo_sgn] at c4
    simp only [den_seq, den_region, den_regionT, kill_nil, kill_cons, killM_none, killM_some, fr_move, fr_assign, fr_pick, fr_bin, fr_un, fr_conv, fr_extract, fr_load, fr_store, fr_fa, fr_fd, fr_ia, fr_index, fr_slice, fr_build, fr_bs, fr_box, fr_nil, fr_blt, fr_tmp, fr_call, fr_callg, fr_alloc, fr_allocg, fr_make, fr_makeg, keep0, callQQ_f, callQQ_t, Nat.reduceBEq, Bool.or_self, Bool.or_false, Bool.or_true, Bool.and_true, Bool.and_false, Bool.true_and, Bool.false_and, Option.isNone_none, Option.isNone_some, Option.isSome_some, Option.isSome_none, den_ret, den_skip, den_label, den_exit, den_block, den_scope, den_condV, condV_bool, ops1_cons, ops1_guarded, guardV_bool, guardV_tup, guardD_0, guardD_s, ops1_nil, seqK_normal, seqK_ret, seqK_exit, blockK_normal, blockK_exit, blockK_ret, loopK_normal, loopK_exit, loopK_ret, finK_normal, finK_ret, opK_some, opA_move, opA_assign, opA_pick, pickA_bool, opA_len, opA_bin, opA_un, opA_ia, opA_load, opA_store, opA_conv, opA_make, opA_append, opA_copy, opA_max, opA_min, opA_slice, opA_call, opA_callq, opA_extract, extA_tup, Option.getD_some, Option.getD_none, setO_some, setO_none, ev_tmp, ev_int, ev_bool, ev_nil, ev_fn, upd_at, Option.map_some, Option.map_none, Option.bind_some, List.map_cons, List.map_nil, List.cons_append, List.nil_append, ↓reduceIte, Nat.reduceEqDiff, Nat.reduceAdd, decide_true, decide_false, Bool.true_eq_false, Bool.false_eq_true, env0, List.getElem?_cons_zero, List.getElem?_cons_succ, len22, lenN22, k_lss, k_leq, k_gtr, k_geq, k_eql, k_neq, ia22, ld31, conv31_40, conv40_31, opA_box, opA_alloc, opA_fa, opA_fd, opA_build, box_agg, dead_t, ld_ptr, ldE_24, ldE_4, ldE_22, st_24, stE_buf, fa_0, fa_1, faE_buf, bd_0, bd_2, bd_2R, fd_1, zero24, Nat.zero_add, st0_3', c1, c2, Int.reduceBEq, p0, en, c3, c4, madeV_eq, ext_0, ext_1, st_Z]
    exact finish_ct _ _ 6 6 1 _ _ _ _ _ _ _ (by simp only [upd_at, ↓reduceIte, Nat.reduceEqDiff]) (by simp only [upd_at, ↓reduceIte, Nat.reduceEqDiff]) (by simp only [upd_at, ↓reduceIte, Nat.reduceEqDiff]) rfl
theorem op5_eq : evalFn Tryd.prog cfg0 n (d+6) 14 [.tree (.int .i64 5), .tree w, .tree w'] = some (.tree (if z' = 0 then .tup [encZ 0, .bool false] else madeV (z.tmod z')), [[], [], []]) := by
  obtain ⟨g, c1⟩ := qOf n (d + 3) hw
  obtain ⟨g', c2⟩ := qOf n (d + 3) hw'
  have hlt := hw.lt
  have hlt' := hw'.lt
  obtain ⟨neg, g0, l, rfl, hl, hz⟩ := hw
  obtain ⟨neg', g0', l', rfl, hl', hz'⟩ := hw'
  rw [evalFn_go _ Tryd.func14 (by unfold Tryd.f14; rfl) (by unfold Tryd.f14; decide) (Nat.le_of_ble_eq_true (by unfold Tryd.f14; rfl)) (by kernel_rfl)]
  by_cases h0 : z' = 0
  · have p0 : (((digs z'.natAbs).length : Int) == 0) = true := by rw [h0]; simp [digs_0]
    rw [if_pos h0, encZ_0]
    simp only [den_seq, den_region, den_regionT, kill_nil, kill_cons, killM_none, killM_some, fr_move, fr_assign, fr_pick, fr_bin, fr_un, fr_conv, fr_extract, fr_load, fr_store, fr_fa, fr_fd, fr_ia, fr_index, fr_slice, fr_build, fr_bs, fr_box, fr_nil, fr_blt, fr_tmp, fr_call, fr_callg, fr_alloc, fr_allocg, fr_make, fr_makeg, keep0, callQQ_f, callQQ_t, Nat.reduceBEq, Bool.or_self, Bool.or_false, Bool.or_true, Bool.and_true, Bool.and_false, Bool.true_and, Bool.false_and, Option.isNone_none, Option.isNone_some, Option.isSome_some, Option.isSome_none, den_ret, den_skip, den_label, den_exit, den_block, den_scope, den_condV, condV_bool, ops1_cons, ops1_guarded, guardV_bool, guardV_tup, guardD_0, guardD_s, ops1_nil, seqK_normal, seqK_ret, seqK_exit, blockK_normal, blockK_exit, blockK_ret, loopK_normal, loopK_exit, loopK_ret, finK_normal, finK_ret, opK_some, opA_move, opA_assign, opA_pick, pickA_bool, opA_len, opA_bin, opA_un, opA_ia, opA_load, opA_store, opA_conv, opA_make, opA_append, opA_copy, opA_max, opA_min, opA_slice, opA_call, opA_callq, opA_extract, extA_tup, Option.getD_some, Option.getD_none, setO_some, setO_none, ev_tmp, ev_int, ev_bool, ev_nil, ev_fn, upd_at, Option.map_some, Option.map_none, Option.bind_some, List.map_cons, List.map_nil, List.cons_append, List.nil_append, ↓reduceIte, Nat.reduceEqDiff, Nat.reduceAdd, decide_true, decide_false, Bool.true_eq_false, Bool.false_eq_true, env0, List.getElem?_cons_zero, List.getElem?_cons_succ, len22, lenN22, k_lss, k_leq, k_gtr, k_geq, k_eql, k_neq, ia22, ld31, conv31_40, conv40_31, opA_box, opA_alloc, opA_fa, opA_fd, opA_build, box_agg, dead_t, ld_ptr, ldE_24, ldE_4, ldE_22, st_24, stE_buf, fa_0, fa_1, faE_buf, bd_0, bd_2, bd_2R, fd_1, zero24, Nat.zero_add, st0_3', c1, c2, Int.reduceBEq, p0]
    exact finish_ct _ _ 6 6 1 _ _ _ _ _ _ _ (by simp only [upd_at, ↓reduceIte, Nat.reduceEqDiff]) (by simp only [upd_at, ↓reduceIte, Nat.reduceEqDiff]) (by simp only [upd_at, ↓reduceIte, Nat.reduceEqDiff]) rfl
  · have p0 : (((digs z'.natAbs).length : Int) == 0) = false := by
      rw [beq_eq_false_iff_ne]
      intro h
      have := (digs_len0 z'.natAbs).mp (by omega)
      omega
    rw [if_neg h0]
    have hz0 : z'.natAbs ≠ 0 := by omega
    have c3 := fun D s => cDivS n d hn D s (sh_L g (digs z.natAbs)) (sh_L g' (digs z'.natAbs)) (limbs_digs _) (limbs_digs _) (by have := digs_len _ 12 hlt; omega) (by have := digs_len _ 12 hlt'; omega)
    simp only [val_digs, if_neg hz0] at c3
    have c4 := fun D s => cMade n (d + 3) hn D s (num_R (z.natAbs % z'.natAbs) 12 (by decide) (Nat.lt_of_le_of_lt (Nat.mod_le _ _) hlt)) (decide (z < 0))
    rw [rem_sgn] at c4
    simp only [den_seq, den_region, den_regionT, kill_nil, kill_cons, killM_none, killM_some, fr_move, fr_assign, fr_pick, fr_bin, fr_un, fr_conv, fr_extract, fr_load, fr_store, fr_fa, fr_fd, fr_ia, fr_index, fr_slice, fr_build, fr_bs, fr_box, fr_nil, fr_blt, fr_tmp, fr_call, fr_callg, fr_alloc, fr_allocg, fr_make, fr_makeg, keep0, callQQ_f, callQQ_t, Nat.reduceBEq, Bool.or_self, Bool.or_false, Bool.or_true, Bool.and_true, Bool.and_false, Bool.true_and, Bool.false_and, Option.isNone_none, Option.isNone_some, Option.isSome_some, Option.isSome_none, den_ret, den_skip, den_label, den_exit, den_block, den_scope, den_condV, condV_bool, ops1_cons, ops1_guarded, guardV_bool, guardV_tup, guardD_0, guardD_s, ops1_nil, seqK_normal, seqK_ret, seqK_exit, blockK_normal, blockK_exit, blockK_ret, loopK_normal, loopK_exit, loopK_ret, finK_normal, finK_ret, opK_some, opA_move, opA_assign, opA_pick, pickA_bool, opA_len, opA_bin, opA_un, opA_ia, opA_load, opA_store, opA_conv, opA_make, opA_append, opA_copy, opA_max, opA_min, opA_slice, opA_call, opA_callq, opA_extract, extA_tup, Option.getD_some, Option.getD_none, setO_some, setO_none, ev_tmp, ev_int, ev_bool, ev_nil, ev_fn, upd_at, Option.map_some, Option.map_none, Option.bind_some, List.map_cons, List.map_nil, List.cons_append, List.nil_append, ↓reduceIte, Nat.reduceEqDiff, Nat.reduceAdd, decide_true, decide_false, Bool.true_eq_false, Bool.false_eq_true, env0, List.getElem?_cons_zero, List.getElem?_cons_succ, len22, lenN22, k_lss, k_leq, k_gtr, k_geq, k_eql, k_neq, ia22, ld31, conv31_40, conv40_31, opA_box, opA_alloc, opA_fa, opA_fd, opA_build, box_agg, dead_t, ld_ptr, ldE_24, ldE_4, ldE_22, st_24, stE_buf, fa_0, fa_1, faE_buf, bd_0, bd_2, bd_2R, fd_1, zero24, Nat.zero_add, st0_3', c1, c2, Int.reduceBEq, p0, c3, c4, madeV_eq, ext_0, ext_1, st_Z]
    exact finish_ct _ _ 6 6 1 _ _ _ _ _ _ _ (by simp only [upd_at, ↓reduceIte, Nat.reduceEqDiff]) (by simp only [upd_at, ↓reduceIte, Nat.reduceEqDiff]) (by simp only [upd_at, ↓reduceIte, Nat.reduceEqDiff]) rfl
end
end Go.Ab
