/- The statement LimbPowers, abstractly. Conditions: none. -/
import Derived.Test.YtlmffjpfjbhliaaAbL14
namespace Go.Ab
open Go.Proofs
set_option maxRecDepth 100000
set_option linter.unusedSimpArgs false

set_option maxHeartbeats 4000000 in
theorem powers_eq (n d : Nat) (hn : 100000 ≤ n) (z z' : Int) : evalFn Try.prog cfg0 n (d+6) 8 [.tree (.int .i64 z), .tree (.int .i64 z')] = some (.tree (.bool true), [[], []]) := by
  rw [evalFn_go _ Try.func8 (by unfold Try.f8; rfl) (by unfold Try.f8; decide) (Nat.le_of_ble_eq_true (by unfold Try.f8; rfl)) (by kernel_rfl)]
  have w := cAwake n (d + 2) hn
  have hp := place_range z 200 (by decide)
  have c0 := fun D s => cPlace n (d + 4) z 200 (by decide) (by decide) D s
  obtain ⟨K, hK⟩ : ∃ K : Nat, placeN z 200 = (K : Int) := ⟨(placeN z 200).toNat, by omega⟩
  rw [hK] at c0 hp
  have hp' := place_range z' 200 (by decide)
  have c0' := fun D s => cPlace n (d + 4) z' 200 (by decide) (by decide) D s
  obtain ⟨L, hL⟩ : ∃ L : Nat, placeN z' 200 = (L : Int) := ⟨(placeN z' 200).toNat, by omega⟩
  rw [hL] at c0' hp'
  have n1 := num_one 1 (by decide)
  rw [show ((1 : Nat) : Int) = 1 from rfl] at n1
  have c1 := fun D s => cShl n (d + 3) hn D s n1 (K : Int)
  rw [shn_nat K (by omega), Nat.one_mul] at c1
  have c2 := fun D s => cShl n (d + 3) hn D s n1 (L : Int)
  rw [shn_nat L (by omega), Nat.one_mul] at c2
  have f1 := i_add Try.prog 3 (K : Int) (L : Int) (by omega) (by omega)
  have c3 := fun D s => cShl n (d + 3) hn D s n1 ((K : Int) + (L : Int))
  rw [← Int.natCast_add, shn_nat (K + L) (by omega), Nat.one_mul, Int.natCast_add] at c3
  have e1 : 1 < B := by decide
  have e8 : B ^ 7 < B ^ 8 := Nat.pow_lt_pow_right e1 (by decide)
  have e20 : B ^ 13 < B ^ 20 := Nat.pow_lt_pow_right e1 (by decide)
  have hx : 2 ^ K < B ^ 8 := Nat.lt_of_le_of_lt (pow2_B K 7 (by omega)) e8
  have hy : 2 ^ L < B ^ 8 := Nat.lt_of_le_of_lt (pow2_B L 7 (by omega)) e8
  have hxy : 2 ^ (K + L) < B ^ 20 := Nat.lt_of_le_of_lt (pow2_B (K + L) 13 (by omega)) e20
  have nx := num_R _ 8 (by decide) hx
  have ny := num_R _ 8 (by decide) hy
  have hy0 : 2 ^ L ≠ 0 := by have := Nat.two_pow_pos L; omega
  have c4 := fun D s => cDivS n d hn D s (sh_L (decide (2 ^ K = 0)) (digs (2 ^ K))) (sh_L (decide (2 ^ L = 0)) (digs (2 ^ L))) (limbs_digs _) (limbs_digs _) (Nat.le_trans (digs_len _ 8 hx) (by decide)) (Nat.le_trans (digs_len _ 8 hy) (by decide))
  rw [val_digs, val_digs, if_neg hy0, if_neg hy0] at c4
  change ∀ D s, callA cfg0 _ D s 22 [encR (2 ^ K), encR (2 ^ L)] = _ at c4
  have c5 := fun D s => cShr n (d + 3) hn D s nx (L : Int) (by omega)
  rw [Int.toNat_natCast] at c5
  have c6 := fun D s => cMul n (d + 3) hn D s nx ny
  rw [← Nat.pow_add] at c6
  have c7 := fun D s => cCmp n (d + 2) hn D s (num_R _ 20 (by decide) hxy) (num_R _ 20 (by decide) hxy)
  have p2 := cmp0 (2 ^ (K + L)) (2 ^ (K + L)) rfl
  have p3 : (((digs 0).length : Int) == 0) = true := by rw [digs_0]; rfl
  by_cases hlt : K < L
  · have h1 : (K : Int) < (L : Int) := by omega
    obtain ⟨q1, q2⟩ := pow_div_lt K L hlt
    rw [q1, q2] at c4
    have c8 := fun D s => cCmp n (d + 2) hn D s nx nx
    have p1 := cmp0 (2 ^ K) (2 ^ K) rfl
    simp only [den_seq, den_region, den_ret, den_skip, den_label, den_exit, den_block, den_scope, den_condV, condV_bool, ops1_cons, ops1_guarded, guardV_bool, guardV_tup, guardD_0, guardD_s, ops1_nil, seqK_normal, seqK_ret, seqK_exit, blockK_normal, blockK_exit, blockK_ret, loopK_normal, loopK_exit, loopK_ret, finK_normal, finK_ret, opK_some, opA_move, opA_assign, opA_pick, pickA_bool, opA_len, opA_bin, opA_un, opA_ia, opA_load, opA_store, opA_conv, opA_make, opA_append, opA_copy, opA_max, opA_min, opA_slice, opA_call, opA_callq, opA_extract, extA_tup, Option.getD_some, Option.getD_none, setO_some, setO_none, ev_tmp, ev_int, ev_bool, ev_nil, ev_fn, upd_at, Option.map_some, Option.map_none, Option.bind_some, List.map_cons, List.map_nil, List.cons_append, List.nil_append, reduceIte, Nat.reduceEqDiff, Nat.reduceAdd, decide_true, decide_false, Bool.true_eq_false, Bool.false_eq_true, env0, List.getElem?_cons_zero, List.getElem?_cons_succ, len22, lenN22, k_lss, k_leq, k_gtr, k_geq, k_eql, k_neq, ia22, ld31, conv31_40, conv40_31, opA_one, one22_int, c0, c0', c1, c2, c4, c5, tup_0, tup_1, h1, lenR, p3]
    refine forget (fun env => env 5 = .int .i64 (K : Int) ∧ env 6 = .int .i64 (L : Int) ∧ env 7 = .sl [.int .u32 1] 1 .tight ∧ env 8 = encR (2 ^ K) ∧ env 9 = encR (2 ^ L) ∧ env 39 = .bool true) ⟨by simp only [upd_at, reduceIte, Nat.reduceEqDiff, env0, List.getElem?_cons_zero, List.getElem?_cons_succ], by simp only [upd_at, reduceIte, Nat.reduceEqDiff, env0, List.getElem?_cons_zero, List.getElem?_cons_succ], by simp only [upd_at, reduceIte, Nat.reduceEqDiff, env0, List.getElem?_cons_zero, List.getElem?_cons_succ], by simp only [upd_at, reduceIte, Nat.reduceEqDiff, env0, List.getElem?_cons_zero, List.getElem?_cons_succ], by simp only [upd_at, reduceIte, Nat.reduceEqDiff, env0, List.getElem?_cons_zero, List.getElem?_cons_succ], by simp only [upd_at, reduceIte, Nat.reduceEqDiff, env0, List.getElem?_cons_zero, List.getElem?_cons_succ]⟩ ?_
    intro env ⟨k5, k6, k7, k8, k9, k39⟩
    simp only [den_seq, den_region, den_ret, den_skip, den_label, den_exit, den_block, den_scope, den_condV, condV_bool, ops1_cons, ops1_guarded, guardV_bool, guardV_tup, guardD_0, guardD_s, ops1_nil, seqK_normal, seqK_ret, seqK_exit, blockK_normal, blockK_exit, blockK_ret, loopK_normal, loopK_exit, loopK_ret, finK_normal, finK_ret, opK_some, opA_move, opA_assign, opA_pick, pickA_bool, opA_len, opA_bin, opA_un, opA_ia, opA_load, opA_store, opA_conv, opA_make, opA_append, opA_copy, opA_max, opA_min, opA_slice, opA_call, opA_callq, opA_extract, extA_tup, Option.getD_some, Option.getD_none, setO_some, setO_none, ev_tmp, ev_int, ev_bool, ev_nil, ev_fn, upd_at, Option.map_some, Option.map_none, Option.bind_some, List.map_cons, List.map_nil, List.cons_append, List.nil_append, reduceIte, Nat.reduceEqDiff, Nat.reduceAdd, decide_true, decide_false, Bool.true_eq_false, Bool.false_eq_true, len22, lenN22, k_lss, k_leq, k_gtr, k_geq, k_eql, k_neq, ia22, ld31, conv31_40, conv40_31, k5, k6, k7, k8, k9, k39, c3, c6, c7, c8, p1, p2, f1, w]
    exact finish_tree _ _ _ _ _ _ (.bool true) _ _ (by simp only [upd_at, reduceIte]) rfl rfl
  · have h1 : ¬ (K : Int) < (L : Int) := by omega
    obtain ⟨q1, q2⟩ := pow_div_ge K L (by omega)
    rw [q1, q2] at c4
    rw [q1] at c5
    have hq : 2 ^ (K - L) < B ^ 8 := Nat.lt_of_le_of_lt (pow2_B _ 7 (by omega)) e8
    have c8 := fun D s => cCmp n (d + 2) hn D s (num_R _ 8 (by decide) hq) (num_R _ 8 (by decide) hq)
    have p1 := cmp0 (2 ^ (K - L)) (2 ^ (K - L)) rfl
    have c9 := fun D s => cSub n (d + 1) hn D s nx n1
    have hs : 2 ^ K - 1 < B ^ 8 := by omega
    have c10 := fun D s => cLen n (d + 3) hn D s (num_R _ 8 (by decide) hs)
    rw [blen_pow_pred] at c10
    have p4 : ((K : Int) == (K : Int)) = true := beq_self_eq_true _
    simp only [den_seq, den_region, den_ret, den_skip, den_label, den_exit, den_block, den_scope, den_condV, condV_bool, ops1_cons, ops1_guarded, guardV_bool, guardV_tup, guardD_0, guardD_s, ops1_nil, seqK_normal, seqK_ret, seqK_exit, blockK_normal, blockK_exit, blockK_ret, loopK_normal, loopK_exit, loopK_ret, finK_normal, finK_ret, opK_some, opA_move, opA_assign, opA_pick, pickA_bool, opA_len, opA_bin, opA_un, opA_ia, opA_load, opA_store, opA_conv, opA_make, opA_append, opA_copy, opA_max, opA_min, opA_slice, opA_call, opA_callq, opA_extract, extA_tup, Option.getD_some, Option.getD_none, setO_some, setO_none, ev_tmp, ev_int, ev_bool, ev_nil, ev_fn, upd_at, Option.map_some, Option.map_none, Option.bind_some, List.map_cons, List.map_nil, List.cons_append, List.nil_append, reduceIte, Nat.reduceEqDiff, Nat.reduceAdd, decide_true, decide_false, Bool.true_eq_false, Bool.false_eq_true, env0, List.getElem?_cons_zero, List.getElem?_cons_succ, len22, lenN22, k_lss, k_leq, k_gtr, k_geq, k_eql, k_neq, ia22, ld31, conv31_40, conv40_31, opA_one, one22_int, c0, c0', c1, c2, c4, c5, tup_0, tup_1, h1]
    refine forget (fun env => env 5 = .int .i64 (K : Int) ∧ env 6 = .int .i64 (L : Int) ∧ env 7 = .sl [.int .u32 1] 1 .tight ∧ env 8 = encR (2 ^ K) ∧ env 9 = encR (2 ^ L) ∧ env 11 = encR 0) ⟨by simp only [upd_at, reduceIte, Nat.reduceEqDiff, env0, List.getElem?_cons_zero, List.getElem?_cons_succ], by simp only [upd_at, reduceIte, Nat.reduceEqDiff, env0, List.getElem?_cons_zero, List.getElem?_cons_succ], by simp only [upd_at, reduceIte, Nat.reduceEqDiff, env0, List.getElem?_cons_zero, List.getElem?_cons_succ], by simp only [upd_at, reduceIte, Nat.reduceEqDiff, env0, List.getElem?_cons_zero, List.getElem?_cons_succ], by simp only [upd_at, reduceIte, Nat.reduceEqDiff, env0, List.getElem?_cons_zero, List.getElem?_cons_succ], by simp only [upd_at, reduceIte, Nat.reduceEqDiff, env0, List.getElem?_cons_zero, List.getElem?_cons_succ]⟩ ?_
    intro env ⟨k5, k6, k7, k8, k9, k11⟩
    simp only [den_seq, den_region, den_ret, den_skip, den_label, den_exit, den_block, den_scope, den_condV, condV_bool, ops1_cons, ops1_guarded, guardV_bool, guardV_tup, guardD_0, guardD_s, ops1_nil, seqK_normal, seqK_ret, seqK_exit, blockK_normal, blockK_exit, blockK_ret, loopK_normal, loopK_exit, loopK_ret, finK_normal, finK_ret, opK_some, opA_move, opA_assign, opA_pick, pickA_bool, opA_len, opA_bin, opA_un, opA_ia, opA_load, opA_store, opA_conv, opA_make, opA_append, opA_copy, opA_max, opA_min, opA_slice, opA_call, opA_callq, opA_extract, extA_tup, Option.getD_some, Option.getD_none, setO_some, setO_none, ev_tmp, ev_int, ev_bool, ev_nil, ev_fn, upd_at, Option.map_some, Option.map_none, Option.bind_some, List.map_cons, List.map_nil, List.cons_append, List.nil_append, reduceIte, Nat.reduceEqDiff, Nat.reduceAdd, decide_true, decide_false, Bool.true_eq_false, Bool.false_eq_true, len22, lenN22, k_lss, k_leq, k_gtr, k_geq, k_eql, k_neq, ia22, ld31, conv31_40, conv40_31, k5, k6, k7, k8, k9, k11, c8, p1, lenR, p3]
    refine forget (fun env => env 5 = .int .i64 (K : Int) ∧ env 6 = .int .i64 (L : Int) ∧ env 7 = .sl [.int .u32 1] 1 .tight ∧ env 8 = encR (2 ^ K) ∧ env 9 = encR (2 ^ L) ∧ env 69 = .bool true) ⟨by simp only [upd_at, reduceIte, Nat.reduceEqDiff, k5], by simp only [upd_at, reduceIte, Nat.reduceEqDiff, k6], by simp only [upd_at, reduceIte, Nat.reduceEqDiff, k7], by simp only [upd_at, reduceIte, Nat.reduceEqDiff, k8], by simp only [upd_at, reduceIte, Nat.reduceEqDiff, k9], by simp only [upd_at, reduceIte, Nat.reduceEqDiff]⟩ ?_
    clear k5 k6 k7 k8 k9 k11
    intro env ⟨k5, k6, k7, k8, k9, k69⟩
    simp only [den_seq, den_region, den_ret, den_skip, den_label, den_exit, den_block, den_scope, den_condV, condV_bool, ops1_cons, ops1_guarded, guardV_bool, guardV_tup, guardD_0, guardD_s, ops1_nil, seqK_normal, seqK_ret, seqK_exit, blockK_normal, blockK_exit, blockK_ret, loopK_normal, loopK_exit, loopK_ret, finK_normal, finK_ret, opK_some, opA_move, opA_assign, opA_pick, pickA_bool, opA_len, opA_bin, opA_un, opA_ia, opA_load, opA_store, opA_conv, opA_make, opA_append, opA_copy, opA_max, opA_min, opA_slice, opA_call, opA_callq, opA_extract, extA_tup, Option.getD_some, Option.getD_none, setO_some, setO_none, ev_tmp, ev_int, ev_bool, ev_nil, ev_fn, upd_at, Option.map_some, Option.map_none, Option.bind_some, List.map_cons, List.map_nil, List.cons_append, List.nil_append, reduceIte, Nat.reduceEqDiff, Nat.reduceAdd, decide_true, decide_false, Bool.true_eq_false, Bool.false_eq_true, len22, lenN22, k_lss, k_leq, k_gtr, k_geq, k_eql, k_neq, ia22, ld31, conv31_40, conv40_31, k5, k6, k7, k8, k9, k69, c3, c6, c7, p2, f1, c9, c10, p4, w]
    exact finish_tree _ _ _ _ _ _ (.bool true) _ _ (by simp only [upd_at, reduceIte]) rfl rfl
end Go.Ab
