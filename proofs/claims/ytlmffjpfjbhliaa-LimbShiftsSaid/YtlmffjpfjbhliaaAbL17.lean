/- The statement LimbShifts, abstractly. Conditions: limbs in range. -/
import Derived.Test.YtlmffjpfjbhliaaAbL14
namespace Go.Ab
open Go.Proofs
set_option maxRecDepth 100000
set_option linter.unusedSimpArgs false

set_option maxHeartbeats 4000000 in
theorem shifts_eq (n d : Nat) (hn : 100000 ≤ n) (b1 : Bool) (a : List Nat) (z : Int) (ha : Limbs a) : evalFn Try.prog cfg0 n (d+5) 5 [.tree (encL b1 a), .tree (.int .i64 z)] = some (.tree (.bool true), [[], []]) := by
  rw [evalFn_go _ Try.func5 (by unfold Try.f5; rfl) (by unfold Try.f5; decide) (Nat.le_of_ble_eq_true (by unfold Try.f5; rfl)) (by kernel_rfl)]
  have w := cAwake n (d + 1) hn
  by_cases h1 : (a.length : Int) > 30
  · simp only [den_seq, den_region, den_ret, den_skip, den_label, den_exit, den_block, den_scope, den_condV, condV_bool, ops1_cons, ops1_guarded, guardV_bool, guardV_tup, guardD_0, guardD_s, ops1_nil, seqK_normal, seqK_ret, seqK_exit, blockK_normal, blockK_exit, blockK_ret, loopK_normal, loopK_exit, loopK_ret, finK_normal, finK_ret, opK_some, opA_move, opA_assign, opA_pick, pickA_bool, opA_len, opA_bin, opA_un, opA_ia, opA_load, opA_store, opA_conv, opA_make, opA_append, opA_copy, opA_max, opA_min, opA_slice, opA_call, opA_callq, opA_extract, extA_tup, Option.getD_some, Option.getD_none, setO_some, setO_none, ev_tmp, ev_int, ev_bool, ev_nil, ev_fn, upd_at, Option.map_some, Option.map_none, Option.bind_some, List.map_cons, List.map_nil, List.cons_append, List.nil_append, reduceIte, Nat.reduceEqDiff, Nat.reduceAdd, decide_true, decide_false, Bool.true_eq_false, Bool.false_eq_true, env0, List.getElem?_cons_zero, List.getElem?_cons_succ, len22, lenN22, k_lss, k_leq, k_gtr, k_geq, k_eql, k_neq, ia22, ld31, conv31_40, conv40_31, h1, w]
    exact finish_tree _ _ _ _ _ _ (.bool true) _ _ (by simp only [upd_at, reduceIte]) rfl rfl
  have va : val a < B ^ 30 := Nat.lt_of_lt_of_le (val_lt a ha) (Nat.pow_le_pow_right (by decide) (by omega))
  have na := num_L b1 a ha (by omega)
  have hp := place_range z 200 (by decide)
  have c0 := fun D s => cPlace n (d + 3) z 200 (by decide) (by decide) D s
  obtain ⟨K, hK⟩ : ∃ K : Nat, placeN z 200 = (K : Int) := ⟨(placeN z 200).toNat, by omega⟩
  rw [hK] at c0 hp
  have c1 := fun D s => cShl n (d + 2) hn D s na (K : Int)
  rw [shn_nat K (by omega)] at c1
  have hup : val a * 2 ^ K < B ^ 37 := mul_B _ _ 30 7 37 va (pow2_B K 7 (by omega)) rfl
  have nup := num_R _ 37 (by decide) hup
  have c2 := fun D s => cShr n (d + 2) hn D s nup (K : Int) (by omega)
  rw [Int.toNat_natCast, Nat.mul_div_cancel _ (Nat.two_pow_pos K)] at c2
  have c3 := fun D s => cCmp n (d + 1) hn D s (num_R _ 30 (by decide) va) na
  have c4 := fun D s => cShl n (d + 2) hn D s na 1
  rw [shn_1] at c4
  have c5 := fun D s => cAdd n (d + 2) hn D s na na
  have e31 : B ^ 30 * 4 ≤ B ^ 31 := by rw [show (31 : Nat) = 30 + 1 from rfl, Nat.pow_succ]; exact Nat.mul_le_mul_left _ (by decide)
  have haa : val a + val a < B ^ 31 := by generalize B ^ 31 = q at *; generalize B ^ 30 = p at *; omega
  have ha2 : val a * 2 ^ 1 = val a + val a := by omega
  rw [ha2] at c4
  have c6 := fun D s => cCmp n (d + 1) hn D s (num_R _ 31 (by decide) haa) (num_R _ 31 (by decide) haa)
  have p1 : (cmpZ (val a) (val a) != 0) = false := by rw [cmpZ_self]; rfl
  have p2 : (cmpZ (val a + val a) (val a + val a) != 0) = false := by rw [cmpZ_self]; rfl
  have c7 := fun D s => cLen n (d + 2) hn D s na
  have c8 := fun D s => cLen n (d + 2) hn D s nup
  have hbl := blen_B (val a) 30 va
  have c9 := fun D s => cShr n (d + 2) hn D s na (blen (val a) : Int) (by omega)
  rw [Int.toNat_natCast, blen_gone] at c9
  have z30 : 0 < B ^ 30 := Nat.pow_pos (by decide)
  have c10 := fun D s => cLen n (d + 2) hn D s (num_R 0 30 (by decide) z30)
  rw [blen_0] at c10
  have p3 : (((0 : Nat) : Int) == 0) = true := rfl
  simp only [den_seq, den_region, den_ret, den_skip, den_label, den_exit, den_block, den_scope, den_condV, condV_bool, ops1_cons, ops1_guarded, guardV_bool, guardV_tup, guardD_0, guardD_s, ops1_nil, seqK_normal, seqK_ret, seqK_exit, blockK_normal, blockK_exit, blockK_ret, loopK_normal, loopK_exit, loopK_ret, finK_normal, finK_ret, opK_some, opA_move, opA_assign, opA_pick, pickA_bool, opA_len, opA_bin, opA_un, opA_ia, opA_load, opA_store, opA_conv, opA_make, opA_append, opA_copy, opA_max, opA_min, opA_slice, opA_call, opA_callq, opA_extract, extA_tup, Option.getD_some, Option.getD_none, setO_some, setO_none, ev_tmp, ev_int, ev_bool, ev_nil, ev_fn, upd_at, Option.map_some, Option.map_none, Option.bind_some, List.map_cons, List.map_nil, List.cons_append, List.nil_append, reduceIte, Nat.reduceEqDiff, Nat.reduceAdd, decide_true, decide_false, Bool.true_eq_false, Bool.false_eq_true, env0, List.getElem?_cons_zero, List.getElem?_cons_succ, len22, lenN22, k_lss, k_leq, k_gtr, k_geq, k_eql, k_neq, ia22, ld31, conv31_40, conv40_31, h1, c0, c1, c2, c3, c4, c5, c6, p1, p2]
  refine forget (fun env => env 0 = encL b1 a ∧ env 5 = .int .i64 (K : Int) ∧ env 6 = encR (val a * 2 ^ K)) ⟨by simp only [upd_at, reduceIte, Nat.reduceEqDiff, env0, List.getElem?_cons_zero, List.getElem?_cons_succ], by simp only [upd_at, reduceIte, Nat.reduceEqDiff, env0, List.getElem?_cons_zero, List.getElem?_cons_succ], by simp only [upd_at, reduceIte, Nat.reduceEqDiff, env0, List.getElem?_cons_zero, List.getElem?_cons_succ]⟩ ?_
  intro env ⟨e0, e5, e6⟩
  by_cases hz : val a = 0
  · have p4 : (((blen (val a) : Nat) : Int) == 0) = true := by rw [hz]; rfl
    have p5 : (((blen (val a * 2 ^ K) : Nat) : Int) == 0) = true := by rw [hz, Nat.zero_mul]; rfl
    simp only [den_seq, den_region, den_ret, den_skip, den_label, den_exit, den_block, den_scope, den_condV, condV_bool, ops1_cons, ops1_guarded, guardV_bool, guardV_tup, guardD_0, guardD_s, ops1_nil, seqK_normal, seqK_ret, seqK_exit, blockK_normal, blockK_exit, blockK_ret, loopK_normal, loopK_exit, loopK_ret, finK_normal, finK_ret, opK_some, opA_move, opA_assign, opA_pick, pickA_bool, opA_len, opA_bin, opA_un, opA_ia, opA_load, opA_store, opA_conv, opA_make, opA_append, opA_copy, opA_max, opA_min, opA_slice, opA_call, opA_callq, opA_extract, extA_tup, Option.getD_some, Option.getD_none, setO_some, setO_none, ev_tmp, ev_int, ev_bool, ev_nil, ev_fn, upd_at, Option.map_some, Option.map_none, Option.bind_some, List.map_cons, List.map_nil, List.cons_append, List.nil_append, reduceIte, Nat.reduceEqDiff, Nat.reduceAdd, decide_true, decide_false, Bool.true_eq_false, Bool.false_eq_true, len22, lenN22, k_lss, k_leq, k_gtr, k_geq, k_eql, k_neq, ia22, ld31, conv31_40, conv40_31, e0, e5, e6, c7, p4]
    refine forget (fun env => env 0 = encL b1 a ∧ env 7 = .int .i64 (blen (val a) : Int) ∧ env 36 = .bool true) ⟨by simp only [upd_at, reduceIte, Nat.reduceEqDiff, e0, e5, e6], by simp only [upd_at, reduceIte, Nat.reduceEqDiff, e0, e5, e6], by simp only [upd_at, reduceIte, Nat.reduceEqDiff, e0, e5, e6]⟩ ?_
    clear e0 e5 e6
    intro env ⟨k0, k7, k36⟩
    simp only [den_seq, den_region, den_ret, den_skip, den_label, den_exit, den_block, den_scope, den_condV, condV_bool, ops1_cons, ops1_guarded, guardV_bool, guardV_tup, guardD_0, guardD_s, ops1_nil, seqK_normal, seqK_ret, seqK_exit, blockK_normal, blockK_exit, blockK_ret, loopK_normal, loopK_exit, loopK_ret, finK_normal, finK_ret, opK_some, opA_move, opA_assign, opA_pick, pickA_bool, opA_len, opA_bin, opA_un, opA_ia, opA_load, opA_store, opA_conv, opA_make, opA_append, opA_copy, opA_max, opA_min, opA_slice, opA_call, opA_callq, opA_extract, extA_tup, Option.getD_some, Option.getD_none, setO_some, setO_none, ev_tmp, ev_int, ev_bool, ev_nil, ev_fn, upd_at, Option.map_some, Option.map_none, Option.bind_some, List.map_cons, List.map_nil, List.cons_append, List.nil_append, reduceIte, Nat.reduceEqDiff, Nat.reduceAdd, decide_true, decide_false, Bool.true_eq_false, Bool.false_eq_true, len22, lenN22, k_lss, k_leq, k_gtr, k_geq, k_eql, k_neq, ia22, ld31, conv31_40, conv40_31, k0, k7, k36, c8, p5]
    refine forget (fun env => env 0 = encL b1 a ∧ env 7 = .int .i64 (blen (val a) : Int) ∧ env 53 = .bool true) ⟨by simp only [upd_at, reduceIte, Nat.reduceEqDiff, k0, k7], by simp only [upd_at, reduceIte, Nat.reduceEqDiff, k0, k7], by simp only [upd_at, reduceIte, Nat.reduceEqDiff, k0, k7]⟩ ?_
    clear k0 k7 k36
    intro env ⟨k0, k7, k53⟩
    simp only [den_seq, den_region, den_ret, den_skip, den_label, den_exit, den_block, den_scope, den_condV, condV_bool, ops1_cons, ops1_guarded, guardV_bool, guardV_tup, guardD_0, guardD_s, ops1_nil, seqK_normal, seqK_ret, seqK_exit, blockK_normal, blockK_exit, blockK_ret, loopK_normal, loopK_exit, loopK_ret, finK_normal, finK_ret, opK_some, opA_move, opA_assign, opA_pick, pickA_bool, opA_len, opA_bin, opA_un, opA_ia, opA_load, opA_store, opA_conv, opA_make, opA_append, opA_copy, opA_max, opA_min, opA_slice, opA_call, opA_callq, opA_extract, extA_tup, Option.getD_some, Option.getD_none, setO_some, setO_none, ev_tmp, ev_int, ev_bool, ev_nil, ev_fn, upd_at, Option.map_some, Option.map_none, Option.bind_some, List.map_cons, List.map_nil, List.cons_append, List.nil_append, reduceIte, Nat.reduceEqDiff, Nat.reduceAdd, decide_true, decide_false, Bool.true_eq_false, Bool.false_eq_true, len22, lenN22, k_lss, k_leq, k_gtr, k_geq, k_eql, k_neq, ia22, ld31, conv31_40, conv40_31, k0, k7, k53, c9, c10, p3, p4, w]
    exact finish_tree _ _ _ _ _ _ (.bool true) _ _ (by simp only [upd_at, reduceIte]) rfl rfl
  · have hb0 := blen_pos _ hz
    have p4 : (((blen (val a) : Nat) : Int) == 0) = false := by rw [beq_eq_false_iff_ne]; omega
    have p6 : ((blen (val a) : Nat) : Int) > 0 := by omega
    have hs := blen_shl (val a) K hz
    have f1 := i_add Try.prog 3 (blen (val a) : Int) (K : Int) (by omega) (by omega)
    have p7 : (((blen (val a * 2 ^ K) : Nat) : Int) == (blen (val a) : Int) + (K : Int)) = true := by rw [hs, beq_iff_eq]; omega
    have f2 := i_sub Try.prog 3 (blen (val a) : Int) 1 (by omega) (by omega)
    have c11 := fun D s => cShr n (d + 2) hn D s na ((blen (val a) : Int) - 1) (by omega)
    rw [show ((blen (val a) : Int) - 1).toNat = blen (val a) - 1 by omega] at c11
    have htop : val a / 2 ^ (blen (val a) - 1) < B ^ 30 := Nat.lt_of_le_of_lt (Nat.div_le_self _ _) va
    have c12 := fun D s => cLen n (d + 2) hn D s (num_R _ 30 (by decide) htop)
    rw [blen_top _ hz] at c12
    have p8 : (((1 : Nat) : Int) == 1) = true := rfl
    simp only [den_seq, den_region, den_ret, den_skip, den_label, den_exit, den_block, den_scope, den_condV, condV_bool, ops1_cons, ops1_guarded, guardV_bool, guardV_tup, guardD_0, guardD_s, ops1_nil, seqK_normal, seqK_ret, seqK_exit, blockK_normal, blockK_exit, blockK_ret, loopK_normal, loopK_exit, loopK_ret, finK_normal, finK_ret, opK_some, opA_move, opA_assign, opA_pick, pickA_bool, opA_len, opA_bin, opA_un, opA_ia, opA_load, opA_store, opA_conv, opA_make, opA_append, opA_copy, opA_max, opA_min, opA_slice, opA_call, opA_callq, opA_extract, extA_tup, Option.getD_some, Option.getD_none, setO_some, setO_none, ev_tmp, ev_int, ev_bool, ev_nil, ev_fn, upd_at, Option.map_some, Option.map_none, Option.bind_some, List.map_cons, List.map_nil, List.cons_append, List.nil_append, reduceIte, Nat.reduceEqDiff, Nat.reduceAdd, decide_true, decide_false, Bool.true_eq_false, Bool.false_eq_true, len22, lenN22, k_lss, k_leq, k_gtr, k_geq, k_eql, k_neq, ia22, ld31, conv31_40, conv40_31, e0, e5, e6, c7, p4, p6]
    refine forget (fun env => env 0 = encL b1 a ∧ env 5 = .int .i64 (K : Int) ∧ env 6 = encR (val a * 2 ^ K) ∧ env 7 = .int .i64 (blen (val a) : Int) ∧ env 41 = .bool false ∧ env 44 = .bool true) ⟨by simp only [upd_at, reduceIte, Nat.reduceEqDiff, e0, e5, e6], by simp only [upd_at, reduceIte, Nat.reduceEqDiff, e0, e5, e6], by simp only [upd_at, reduceIte, Nat.reduceEqDiff, e0, e5, e6], by simp only [upd_at, reduceIte, Nat.reduceEqDiff, e0, e5, e6], by simp only [upd_at, reduceIte, Nat.reduceEqDiff, e0, e5, e6], by simp only [upd_at, reduceIte, Nat.reduceEqDiff, e0, e5, e6]⟩ ?_
    clear e0 e5 e6
    intro env ⟨k0, k5, k6, k7, k41, k44⟩
    simp only [den_seq, den_region, den_ret, den_skip, den_label, den_exit, den_block, den_scope, den_condV, condV_bool, ops1_cons, ops1_guarded, guardV_bool, guardV_tup, guardD_0, guardD_s, ops1_nil, seqK_normal, seqK_ret, seqK_exit, blockK_normal, blockK_exit, blockK_ret, loopK_normal, loopK_exit, loopK_ret, finK_normal, finK_ret, opK_some, opA_move, opA_assign, opA_pick, pickA_bool, opA_len, opA_bin, opA_un, opA_ia, opA_load, opA_store, opA_conv, opA_make, opA_append, opA_copy, opA_max, opA_min, opA_slice, opA_call, opA_callq, opA_extract, extA_tup, Option.getD_some, Option.getD_none, setO_some, setO_none, ev_tmp, ev_int, ev_bool, ev_nil, ev_fn, upd_at, Option.map_some, Option.map_none, Option.bind_some, List.map_cons, List.map_nil, List.cons_append, List.nil_append, reduceIte, Nat.reduceEqDiff, Nat.reduceAdd, decide_true, decide_false, Bool.true_eq_false, Bool.false_eq_true, len22, lenN22, k_lss, k_leq, k_gtr, k_geq, k_eql, k_neq, ia22, ld31, conv31_40, conv40_31, k0, k5, k6, k7, k41, k44, c8, f1, p7]
    refine forget (fun env => env 0 = encL b1 a ∧ env 7 = .int .i64 (blen (val a) : Int) ∧ env 53 = .bool true) ⟨by simp only [upd_at, reduceIte, Nat.reduceEqDiff, k0, k7], by simp only [upd_at, reduceIte, Nat.reduceEqDiff, k0, k7], by simp only [upd_at, reduceIte, Nat.reduceEqDiff, k0, k7]⟩ ?_
    clear k0 k5 k6 k7 k41 k44
    intro env ⟨k0, k7, k53⟩
    simp only [den_seq, den_region, den_ret, den_skip, den_label, den_exit, den_block, den_scope, den_condV, condV_bool, ops1_cons, ops1_guarded, guardV_bool, guardV_tup, guardD_0, guardD_s, ops1_nil, seqK_normal, seqK_ret, seqK_exit, blockK_normal, blockK_exit, blockK_ret, loopK_normal, loopK_exit, loopK_ret, finK_normal, finK_ret, opK_some, opA_move, opA_assign, opA_pick, pickA_bool, opA_len, opA_bin, opA_un, opA_ia, opA_load, opA_store, opA_conv, opA_make, opA_append, opA_copy, opA_max, opA_min, opA_slice, opA_call, opA_callq, opA_extract, extA_tup, Option.getD_some, Option.getD_none, setO_some, setO_none, ev_tmp, ev_int, ev_bool, ev_nil, ev_fn, upd_at, Option.map_some, Option.map_none, Option.bind_some, List.map_cons, List.map_nil, List.cons_append, List.nil_append, reduceIte, Nat.reduceEqDiff, Nat.reduceAdd, decide_true, decide_false, Bool.true_eq_false, Bool.false_eq_true, len22, lenN22, k_lss, k_leq, k_gtr, k_geq, k_eql, k_neq, ia22, ld31, conv31_40, conv40_31, k0, k7, k53, c9, c10, p3, p4, f2]
    refine forget (fun env => env 60 = .bool true ∧ env 63 = .bool false) ⟨by simp only [upd_at, reduceIte, Nat.reduceEqDiff, k0, k7], by simp only [upd_at, reduceIte, Nat.reduceEqDiff, k0, k7]⟩ ?_
    clear k0 k7 k53
    intro env ⟨k60, k63⟩
    simp only [den_seq, den_region, den_ret, den_skip, den_label, den_exit, den_block, den_scope, den_condV, condV_bool, ops1_cons, ops1_guarded, guardV_bool, guardV_tup, guardD_0, guardD_s, ops1_nil, seqK_normal, seqK_ret, seqK_exit, blockK_normal, blockK_exit, blockK_ret, loopK_normal, loopK_exit, loopK_ret, finK_normal, finK_ret, opK_some, opA_move, opA_assign, opA_pick, pickA_bool, opA_len, opA_bin, opA_un, opA_ia, opA_load, opA_store, opA_conv, opA_make, opA_append, opA_copy, opA_max, opA_min, opA_slice, opA_call, opA_callq, opA_extract, extA_tup, Option.getD_some, Option.getD_none, setO_some, setO_none, ev_tmp, ev_int, ev_bool, ev_nil, ev_fn, upd_at, Option.map_some, Option.map_none, Option.bind_some, List.map_cons, List.map_nil, List.cons_append, List.nil_append, reduceIte, Nat.reduceEqDiff, Nat.reduceAdd, decide_true, decide_false, Bool.true_eq_false, Bool.false_eq_true, len22, lenN22, k_lss, k_leq, k_gtr, k_geq, k_eql, k_neq, ia22, ld31, conv31_40, conv40_31, k60, k63, c11, c12, p8, w]
    exact finish_tree _ _ _ _ _ _ (.bool true) _ _ (by simp only [upd_at, reduceIte]) rfl rfl

end Go.Ab
