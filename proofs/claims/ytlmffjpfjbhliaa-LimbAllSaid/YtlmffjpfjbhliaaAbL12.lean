/- The statement LimbDivides, abstractly. Conditions: limbs in range. -/
import Derived.Test.YtlmffjpfjbhliaaAbL11
namespace Go.Ab
open Go.Proofs
set_option maxRecDepth 100000
set_option linter.unusedSimpArgs false

theorem cDiv (n d : Nat) (hn : 100000 ≤ n) (D : Nat) (s : St) (b b' : Bool) (l m : List Nat) (hl : Limbs l) (hm : Limbs m) (hll : l.length ≤ 900) (hml : m.length ≤ 900) :
    callA cfg0 (evalFn Try.prog cfg0 n (d+5)) D s 22 [encL b l, encL b' m] = some (.tup [encR (if val m = 0 then 0 else val l / val m), encR (if val m = 0 then 0 else val l % val m)], s) :=
  callA_L2 _ _ _ _ _ _ _ _ _ (fnDiv_eq n d b b' l m hl hm hn hll hml)
theorem cDivS (n d : Nat) (hn : 100000 ≤ n) (D : Nat) (s : St) {w w' : AV} {l m : List Nat} (h : Sh w l) (h' : Sh w' m) (hl : Limbs l) (hm : Limbs m) (hll : l.length ≤ 900) (hml : m.length ≤ 900) :
    callA cfg0 (evalFn Try.prog cfg0 n (d+5)) D s 22 [w, w'] = some (.tup [encR (if val m = 0 then 0 else val l / val m), encR (if val m = 0 then 0 else val l % val m)], s) :=
  callA_S2 _ _ _ _ h h' _ fun b b' => fnDiv_eq n d b b' l m hl hm hn hll hml
theorem tup_0 (a b : AV) : ([a, b] : List AV)[0]? = some a := rfl
theorem tup_1 (a b : AV) : ([a, b] : List AV)[1]? = some b := rfl

set_option maxHeartbeats 4000000 in
theorem divides_eq (n d : Nat) (hn : 100000 ≤ n) (b1 b2 : Bool) (a b : List Nat) (ha : Limbs a) (hb : Limbs b) : evalFn Try.prog cfg0 n (d+6) 6 [.tree (encL b1 a), .tree (encL b2 b)] = some (.tree (.bool true), [[], []]) := by
  rw [evalFn_go _ Try.func6 (by unfold Try.f6; rfl) (by unfold Try.f6; decide) (Nat.le_of_ble_eq_true (by unfold Try.f6; rfl)) (by kernel_rfl)]
  have w := cAwake n (d + 2) hn
  have f := cFew n (d + 4) b1 b2 a b
  by_cases h1 : (a.length : Int) ≤ 30
  rotate_left
  · simp only [den_seq, den_region, den_ret, den_skip, den_label, den_exit, den_block, den_scope, den_condV, condV_bool, ops1_cons, ops1_guarded, guardV_bool, guardV_tup, guardD_0, guardD_s, ops1_nil, seqK_normal, seqK_ret, seqK_exit, blockK_normal, blockK_exit, blockK_ret, loopK_normal, loopK_exit, loopK_ret, finK_normal, finK_ret, opK_some, opA_move, opA_assign, opA_pick, pickA_bool, opA_len, opA_bin, opA_un, opA_ia, opA_load, opA_store, opA_conv, opA_make, opA_append, opA_copy, opA_max, opA_min, opA_slice, opA_call, opA_callq, opA_extract, extA_tup, Option.getD_some, Option.getD_none, setO_some, setO_none, ev_tmp, ev_int, ev_bool, ev_nil, ev_fn, upd_at, Option.map_some, Option.map_none, Option.bind_some, List.map_cons, List.map_nil, List.cons_append, List.nil_append, reduceIte, Nat.reduceEqDiff, Nat.reduceAdd, decide_true, decide_false, Bool.true_eq_false, Bool.false_eq_true, env0, List.getElem?_cons_zero, List.getElem?_cons_succ, len22, lenN22, k_lss, k_leq, k_gtr, k_geq, k_eql, k_neq, ia22, ld31, conv31_40, conv40_31, f, h1, unA_not, Bool.false_and, Bool.not_false, w]
    exact finish_tree _ _ _ _ _ _ (.bool true) _ _ (by simp only [upd_at, reduceIte]) rfl rfl
  by_cases h2 : (b.length : Int) ≤ 30
  rotate_left
  · simp only [den_seq, den_region, den_ret, den_skip, den_label, den_exit, den_block, den_scope, den_condV, condV_bool, ops1_cons, ops1_guarded, guardV_bool, guardV_tup, guardD_0, guardD_s, ops1_nil, seqK_normal, seqK_ret, seqK_exit, blockK_normal, blockK_exit, blockK_ret, loopK_normal, loopK_exit, loopK_ret, finK_normal, finK_ret, opK_some, opA_move, opA_assign, opA_pick, pickA_bool, opA_len, opA_bin, opA_un, opA_ia, opA_load, opA_store, opA_conv, opA_make, opA_append, opA_copy, opA_max, opA_min, opA_slice, opA_call, opA_callq, opA_extract, extA_tup, Option.getD_some, Option.getD_none, setO_some, setO_none, ev_tmp, ev_int, ev_bool, ev_nil, ev_fn, upd_at, Option.map_some, Option.map_none, Option.bind_some, List.map_cons, List.map_nil, List.cons_append, List.nil_append, reduceIte, Nat.reduceEqDiff, Nat.reduceAdd, decide_true, decide_false, Bool.true_eq_false, Bool.false_eq_true, env0, List.getElem?_cons_zero, List.getElem?_cons_succ, len22, lenN22, k_lss, k_leq, k_gtr, k_geq, k_eql, k_neq, ia22, ld31, conv31_40, conv40_31, f, h1, h2, unA_not, Bool.and_false, Bool.not_false, w]
    exact finish_tree _ _ _ _ _ _ (.bool true) _ _ (by simp only [upd_at, reduceIte]) rfl rfl
  have va : val a < B ^ 30 := Nat.lt_of_lt_of_le (val_lt a ha) (Nat.pow_le_pow_right (by decide) (by omega))
  have vb : val b < B ^ 30 := Nat.lt_of_lt_of_le (val_lt b hb) (Nat.pow_le_pow_right (by decide) (by omega))
  have na := num_L b1 a ha (by omega)
  have nb := num_L b2 b hb (by omega)
  have c1 := fun D s => cDiv n d hn D s b1 b2 a b ha hb (by omega) (by omega)
  have c2 := fun D s => cLen n (d + 3) hn D s nb
  by_cases hz : val b = 0
  · have p1 : (((blen (val b) : Nat) : Int) == 0) = true := by rw [hz]; rfl
    simp only [hz, reduceIte] at c1
    have p2 : (((digs 0).length : Int) == 0) = true := by rw [digs_0]; rfl
    simp only [den_seq, den_region, den_ret, den_skip, den_label, den_exit, den_block, den_scope, den_condV, condV_bool, ops1_cons, ops1_guarded, guardV_bool, guardV_tup, guardD_0, guardD_s, ops1_nil, seqK_normal, seqK_ret, seqK_exit, blockK_normal, blockK_exit, blockK_ret, loopK_normal, loopK_exit, loopK_ret, finK_normal, finK_ret, opK_some, opA_move, opA_assign, opA_pick, pickA_bool, opA_len, opA_bin, opA_un, opA_ia, opA_load, opA_store, opA_conv, opA_make, opA_append, opA_copy, opA_max, opA_min, opA_slice, opA_call, opA_callq, opA_extract, extA_tup, Option.getD_some, Option.getD_none, setO_some, setO_none, ev_tmp, ev_int, ev_bool, ev_nil, ev_fn, upd_at, Option.map_some, Option.map_none, Option.bind_some, List.map_cons, List.map_nil, List.cons_append, List.nil_append, reduceIte, Nat.reduceEqDiff, Nat.reduceAdd, decide_true, decide_false, Bool.true_eq_false, Bool.false_eq_true, env0, List.getElem?_cons_zero, List.getElem?_cons_succ, len22, lenN22, k_lss, k_leq, k_gtr, k_geq, k_eql, k_neq, ia22, ld31, conv31_40, conv40_31, f, h1, h2, unA_not, Bool.and_self, Bool.not_true, c1, c2, p1, tup_0, tup_1, lenR, p2, w]
    exact finish_tree _ _ _ _ _ _ (.bool true) _ _ (by simp only [upd_at, reduceIte]) rfl rfl
  · have p1 : (((blen (val b) : Nat) : Int) == 0) = false := by
      rw [beq_eq_false_iff_ne]
      have := blen_pos _ hz
      omega
    simp only [hz, if_false] at c1
    have hq : val a / val b < B ^ 30 := Nat.lt_of_le_of_lt (Nat.div_le_self _ _) va
    have hr : val a % val b < B ^ 30 := Nat.lt_of_le_of_lt (Nat.mod_le _ _) va
    have hqb : val a / val b * val b < B ^ 30 := Nat.lt_of_le_of_lt (Nat.div_mul_le_self _ _) va
    have c3 := fun D s => cMul n (d + 3) hn D s (num_R _ 30 (by decide) hq) nb
    have c4 := fun D s => cAdd n (d + 3) hn D s (num_R _ 30 (by decide) hqb) (num_R _ 30 (by decide) hr)
    rw [show val a / val b * val b + val a % val b = val a by rw [Nat.mul_comm]; exact Nat.div_add_mod _ _] at c4
    have c5 := fun D s => cCmp n (d + 2) hn D s (num_R _ 30 (by decide) va) na
    have c6 := fun D s => cCmp n (d + 2) hn D s (num_R _ 30 (by decide) hr) nb
    have p2 := cmp0 (val a) (val a) rfl
    have p3 : cmpZ (val a % val b) (val b) < 0 := (cmpZ_lt _ _).mpr (Nat.mod_lt _ (by omega))
    simp only [den_seq, den_region, den_ret, den_skip, den_label, den_exit, den_block, den_scope, den_condV, condV_bool, ops1_cons, ops1_guarded, guardV_bool, guardV_tup, guardD_0, guardD_s, ops1_nil, seqK_normal, seqK_ret, seqK_exit, blockK_normal, blockK_exit, blockK_ret, loopK_normal, loopK_exit, loopK_ret, finK_normal, finK_ret, opK_some, opA_move, opA_assign, opA_pick, pickA_bool, opA_len, opA_bin, opA_un, opA_ia, opA_load, opA_store, opA_conv, opA_make, opA_append, opA_copy, opA_max, opA_min, opA_slice, opA_call, opA_callq, opA_extract, extA_tup, Option.getD_some, Option.getD_none, setO_some, setO_none, ev_tmp, ev_int, ev_bool, ev_nil, ev_fn, upd_at, Option.map_some, Option.map_none, Option.bind_some, List.map_cons, List.map_nil, List.cons_append, List.nil_append, reduceIte, Nat.reduceEqDiff, Nat.reduceAdd, decide_true, decide_false, Bool.true_eq_false, Bool.false_eq_true, env0, List.getElem?_cons_zero, List.getElem?_cons_succ, len22, lenN22, k_lss, k_leq, k_gtr, k_geq, k_eql, k_neq, ia22, ld31, conv31_40, conv40_31, f, h1, h2, unA_not, Bool.and_self, Bool.not_true, c1, c2, c3, c4, c5, c6, p1, p2, p3, tup_0, tup_1, w]
    exact finish_tree _ _ _ _ _ _ (.bool true) _ _ (by simp only [upd_at, reduceIte]) rfl rfl
end Go.Ab
