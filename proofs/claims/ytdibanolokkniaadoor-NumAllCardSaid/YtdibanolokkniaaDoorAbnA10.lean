/- Op: shifts. Conditions: numbers that are shown. -/
import Derived.Test.YtdibanolokkniaaDoorAbnA7
namespace Go.Ab
open Go.Proofs
set_option maxRecDepth 100000
set_option linter.unusedSimpArgs false
theorem cShift (n d : Nat) (hn : 100000 ≤ n) (g g' : Gk) (z z' : Int) (hlt : z.natAbs < B ^ 12) (hlt' : z'.natAbs < B ^ 12) (b : Bool) (D : Nat) (s : St) : callA cfg0 (evalFn Tryd.prog cfg0 n (d+5)) D s 42 [canA g z, canA g' z', .bool b] = some (madeV (shZ z (if b = true then -z' else z')), s) :=
  callA_trees rfl (shift_eq n d hn g g' z z' hlt hlt' b)
section
variable (n d : Nat) (hn : 100000 ≤ n) {w w' : AV} {z z' : Int} (hw : IsN w z) (hw' : IsN w' z')
include hn hw hw'
set_option maxHeartbeats 8000000
theorem op9_eq : evalFn Tryd.prog cfg0 n (d+6) 14 [.tree (.int .i64 9), .tree w, .tree w'] = some (.tree (madeV (shZ z z')), [[], [], []]) := by
  obtain ⟨g, c1⟩ := qOf n (d + 3) hw
  obtain ⟨g', c2⟩ := qOf n (d + 3) hw'
  have hlt := hw.lt
  have hlt' := hw'.lt
  obtain ⟨neg, g0, l, rfl, hl, hz⟩ := hw
  obtain ⟨neg', g0', l', rfl, hl', hz'⟩ := hw'
  rw [evalFn_go _ Tryd.func14 (by unfold Tryd.f14; rfl) (by unfold Tryd.f14; decide) (Nat.le_of_ble_eq_true (by unfold Tryd.f14; rfl)) (by kernel_rfl)]
  have c3 := fun D s => cShift n d hn g g' z z' hlt hlt' false D s
  rw [if_neg (show ¬ (false = true) by decide)] at c3
  simp only [den_seq, den_region, den_regionT, kill_nil, kill_cons, killM_none, killM_some, fr_move, fr_assign, fr_pick, fr_bin, fr_un, fr_conv, fr_extract, fr_load, fr_store, fr_fa, fr_fd, fr_ia, fr_index, fr_slice, fr_build, fr_bs, fr_box, fr_nil, fr_blt, fr_tmp, fr_call, fr_callg, fr_alloc, fr_allocg, fr_make, fr_makeg, keep0, callQQ_f, callQQ_t, Nat.reduceBEq, Bool.or_self, Bool.or_false, Bool.or_true, Bool.and_true, Bool.and_false, Bool.true_and, Bool.false_and, Option.isNone_none, Option.isNone_some, Option.isSome_some, Option.isSome_none, den_ret, den_skip, den_label, den_exit, den_block, den_scope, den_condV, condV_bool, ops1_cons, ops1_guarded, guardV_bool, guardV_tup, guardD_0, guardD_s, ops1_nil, seqK_normal, seqK_ret, seqK_exit, blockK_normal, blockK_exit, blockK_ret, loopK_normal, loopK_exit, loopK_ret, finK_normal, finK_ret, opK_some, opA_move, opA_assign, opA_pick, pickA_bool, opA_len, opA_bin, opA_un, opA_ia, opA_load, opA_store, opA_conv, opA_make, opA_append, opA_copy, opA_max, opA_min, opA_slice, opA_call, opA_callq, opA_extract, extA_tup, Option.getD_some, Option.getD_none, setO_some, setO_none, ev_tmp, ev_int, ev_bool, ev_nil, ev_fn, upd_at, Option.map_some, Option.map_none, Option.bind_some, List.map_cons, List.map_nil, List.cons_append, List.nil_append, ↓reduceIte, Nat.reduceEqDiff, Nat.reduceAdd, decide_true, decide_false, Bool.true_eq_false, Bool.false_eq_true, env0, List.getElem?_cons_zero, List.getElem?_cons_succ, len22, lenN22, k_lss, k_leq, k_gtr, k_geq, k_eql, k_neq, ia22, ld31, conv31_40, conv40_31, opA_box, opA_alloc, opA_fa, opA_fd, opA_build, box_agg, dead_t, ld_ptr, ldE_24, ldE_4, ldE_22, st_24, stE_buf, fa_0, fa_1, faE_buf, bd_0, bd_2, bd_2R, fd_1, zero24, Nat.zero_add, st0_3', c1, c2, Int.reduceBEq, c3, madeV_eq, ext_0, ext_1, st_Z]
  exact finish_ct _ _ 6 6 1 _ _ _ _ _ _ _ (by simp only [upd_at, ↓reduceIte, Nat.reduceEqDiff]) (by simp only [upd_at, ↓reduceIte, Nat.reduceEqDiff]) (by simp only [upd_at, ↓reduceIte, Nat.reduceEqDiff]) rfl
theorem op10_eq : evalFn Tryd.prog cfg0 n (d+6) 14 [.tree (.int .i64 10), .tree w, .tree w'] = some (.tree (madeV (shZ z (-z'))), [[], [], []]) := by
  obtain ⟨g, c1⟩ := qOf n (d + 3) hw
  obtain ⟨g', c2⟩ := qOf n (d + 3) hw'
  have hlt := hw.lt
  have hlt' := hw'.lt
  obtain ⟨neg, g0, l, rfl, hl, hz⟩ := hw
  obtain ⟨neg', g0', l', rfl, hl', hz'⟩ := hw'
  rw [evalFn_go _ Tryd.func14 (by unfold Tryd.f14; rfl) (by unfold Tryd.f14; decide) (Nat.le_of_ble_eq_true (by unfold Tryd.f14; rfl)) (by kernel_rfl)]
  have c3 := fun D s => cShift n d hn g g' z z' hlt hlt' true D s
  rw [if_pos (show (true = true) from rfl)] at c3
  simp only [den_seq, den_region, den_regionT, kill_nil, kill_cons, killM_none, killM_some, fr_move, fr_assign, fr_pick, fr_bin, fr_un, fr_conv, fr_extract, fr_load, fr_store, fr_fa, fr_fd, fr_ia, fr_index, fr_slice, fr_build, fr_bs, fr_box, fr_nil, fr_blt, fr_tmp, fr_call, fr_callg, fr_alloc, fr_allocg, fr_make, fr_makeg, keep0, callQQ_f, callQQ_t, Nat.reduceBEq, Bool.or_self, Bool.or_false, Bool.or_true, Bool.and_true, Bool.and_false, Bool.true_and, Bool.false_and, Option.isNone_none, Option.isNone_some, Option.isSome_some, Option.isSome_none, den_ret, den_skip, den_label, den_exit, den_block, den_scope, den_condV, condV_bool, ops1_cons, ops1_guarded, guardV_bool, guardV_tup, guardD_0, guardD_s, ops1_nil, seqK_normal, seqK_ret, seqK_exit, blockK_normal, blockK_exit, blockK_ret, loopK_normal, loopK_exit, loopK_ret, finK_normal, finK_ret, opK_some, opA_move, opA_assign, opA_pick, pickA_bool, opA_len, opA_bin, opA_un, opA_ia, opA_load, opA_store, opA_conv, opA_make, opA_append, opA_copy, opA_max, opA_min, opA_slice, opA_call, opA_callq, opA_extract, extA_tup, Option.getD_some, Option.getD_none, setO_some, setO_none, ev_tmp, ev_int, ev_bool, ev_nil, ev_fn, upd_at, Option.map_some, Option.map_none, Option.bind_some, List.map_cons, List.map_nil, List.cons_append, List.nil_append, ↓reduceIte, Nat.reduceEqDiff, Nat.reduceAdd, decide_true, decide_false, Bool.true_eq_false, Bool.false_eq_true, env0, List.getElem?_cons_zero, List.getElem?_cons_succ, len22, lenN22, k_lss, k_leq, k_gtr, k_geq, k_eql, k_neq, ia22, ld31, conv31_40, conv40_31, opA_box, opA_alloc, opA_fa, opA_fd, opA_build, box_agg, dead_t, ld_ptr, ldE_24, ldE_4, ldE_22, st_24, stE_buf, fa_0, fa_1, faE_buf, bd_0, bd_2, bd_2R, fd_1, zero24, Nat.zero_add, st0_3', c1, c2, Int.reduceBEq, c3, madeV_eq, ext_0, ext_1, st_Z]
  exact finish_ct _ _ 6 6 1 _ _ _ _ _ _ _ (by simp only [upd_at, ↓reduceIte, Nat.reduceEqDiff]) (by simp only [upd_at, ↓reduceIte, Nat.reduceEqDiff]) (by simp only [upd_at, ↓reduceIte, Nat.reduceEqDiff]) rfl
end
end Go.Ab
