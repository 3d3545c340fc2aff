/- The program's number lists: reading, comparing, what their functions compute. Conditions: lengths and places in range. -/
import Derived.Test.YtlmffjpfjbhliaaAbL1
import Derived.Test.YtlmffjpfjbhliaaAbM2
namespace Go.Ab
open Go.Proofs
set_option maxRecDepth 100000
set_option linter.unusedSimpArgs false

theorem getD_lt (l : List Nat) (hl : ∀ x ∈ l, x < 4294967296) (i : Nat) : l.getD i 0 < 4294967296 := by
  by_cases h : i < l.length
  · rw [List.getD_eq_getElem?_getD, List.getElem?_eq_getElem h]
    exact hl _ (List.getElem_mem h)
  · rw [List.getD_eq_getElem?_getD, List.getElem?_eq_none (by omega)]; decide

theorem at_eq (n d : Nat) (b : Bool) (l : List Nat) (hl : ∀ x ∈ l, x < 4294967296) (i : Int) (hi : 0 ≤ i) : evalFn Try.prog cfg0 n (d+1) 33 [.tree (encL b l), .tree (.int .i64 i)] = some (.tree (.int .u64 ((l.getD i.toNat 0 : Nat) : Int)), [[],[]]) := by
  rw [evalFn_go _ Try.func33 (by unfold Try.f33; rfl) (by unfold Try.f33; decide) (Nat.le_of_ble_eq_true (by unfold Try.f33; rfl)) (by kernel_rfl)]
  have hx := getD_lt l hl i.toNat
  by_cases h : i < l.length
  · have h' : i.toNat < l.length := by omega
    simp only [den_seq, den_region, den_ret, den_skip, den_label, den_exit, den_block, den_scope, den_condV, condV_bool, ops1_cons, ops1_guarded, guardV_bool, guardV_tup, guardD_0, guardD_s, ops1_nil, seqK_normal, seqK_ret, seqK_exit, blockK_normal, blockK_exit, blockK_ret, loopK_normal, loopK_exit, loopK_ret, finK_normal, finK_ret, opK_some, opA_move, opA_assign, opA_pick, pickA_bool, opA_len, opA_bin, opA_un, opA_ia, opA_load, opA_store, opA_conv, opA_make, opA_append, opA_copy, opA_max, opA_min, opA_slice, opA_call, opA_callq, opA_extract, extA_tup, Option.getD_some, Option.getD_none, setO_some, setO_none, ev_tmp, ev_int, ev_bool, ev_nil, ev_fn, upd_at, Option.map_some, Option.map_none, Option.bind_some, List.map_cons, List.map_nil, List.cons_append, List.nil_append, reduceIte, Nat.reduceEqDiff, Nat.reduceAdd, decide_true, decide_false, Bool.true_eq_false, Bool.false_eq_true, env0, List.getElem?_cons_zero, List.getElem?_cons_succ, len22, lenN22, k_lss, k_leq, k_gtr, k_geq, k_eql, k_neq, ia22, ld31, conv31_40, conv40_31, h, hi, h', hx]
    rfl
  · have hx : l.getD i.toNat 0 = 0 := by
      rw [List.getD_eq_getElem?_getD, List.getElem?_eq_none (by omega)]; rfl
    simp only [den_seq, den_region, den_ret, den_skip, den_label, den_exit, den_block, den_scope, den_condV, condV_bool, ops1_cons, ops1_guarded, guardV_bool, guardV_tup, guardD_0, guardD_s, ops1_nil, seqK_normal, seqK_ret, seqK_exit, blockK_normal, blockK_exit, blockK_ret, loopK_normal, loopK_exit, loopK_ret, finK_normal, finK_ret, opK_some, opA_move, opA_assign, opA_pick, pickA_bool, opA_len, opA_bin, opA_un, opA_ia, opA_load, opA_store, opA_conv, opA_make, opA_append, opA_copy, opA_max, opA_min, opA_slice, opA_call, opA_callq, opA_extract, extA_tup, Option.getD_some, Option.getD_none, setO_some, setO_none, ev_tmp, ev_int, ev_bool, ev_nil, ev_fn, upd_at, Option.map_some, Option.map_none, Option.bind_some, List.map_cons, List.map_nil, List.cons_append, List.nil_append, reduceIte, Nat.reduceEqDiff, Nat.reduceAdd, decide_true, decide_false, Bool.true_eq_false, Bool.false_eq_true, env0, List.getElem?_cons_zero, List.getElem?_cons_succ, len22, lenN22, k_lss, k_leq, k_gtr, k_geq, k_eql, k_neq, ia22, ld31, conv31_40, conv40_31, h, hx]
    rfl

theorem nan_eq (n d : Nat) (x : Nat) : evalFn Try.prog cfg0 n (d+1) 36 [.tree (.int .u64 (x : Int))] = some (.tree (.bool false), [[]]) := by
  rw [evalFn_go _ Try.func36 (by unfold Try.f36; rfl) (by unfold Try.f36; decide) (Nat.le_of_ble_eq_true (by unfold Try.f36; rfl)) (by kernel_rfl)]
  simp only [den_seq, den_region, den_ret, den_skip, den_label, den_exit, den_block, den_scope, den_condV, condV_bool, ops1_cons, ops1_guarded, guardV_bool, guardV_tup, guardD_0, guardD_s, ops1_nil, seqK_normal, seqK_ret, seqK_exit, blockK_normal, blockK_exit, blockK_ret, loopK_normal, loopK_exit, loopK_ret, finK_normal, finK_ret, opK_some, opA_move, opA_assign, opA_pick, pickA_bool, opA_len, opA_bin, opA_un, opA_ia, opA_load, opA_store, opA_conv, opA_make, opA_append, opA_copy, opA_max, opA_min, opA_slice, opA_call, opA_callq, opA_extract, extA_tup, Option.getD_some, Option.getD_none, setO_some, setO_none, ev_tmp, ev_int, ev_bool, ev_nil, ev_fn, upd_at, Option.map_some, Option.map_none, Option.bind_some, List.map_cons, List.map_nil, List.cons_append, List.nil_append, reduceIte, Nat.reduceEqDiff, Nat.reduceAdd, decide_true, decide_false, Bool.true_eq_false, Bool.false_eq_true, env0, List.getElem?_cons_zero, List.getElem?_cons_succ, len22, lenN22, k_lss, k_leq, k_gtr, k_geq, k_eql, k_neq, ia22, ld31, conv31_40, conv40_31, bne_self_eq_false]
  rfl

/-- A tree that is handed over as it is. -/
theorem argA_int (cfg : Cfg) (f : FuncId) (s : St) (j : Nat) (k : IntKind) (z : Int) : argA cfg f s j (.int k z) = some (.tree (.int k z)) := rfl
theorem argA_L (cfg : Cfg) (f : FuncId) (s : St) (j : Nat) (b : Bool) (l : List Nat) : argA cfg f s j (encL b l) = some (.tree (encL b l)) := by
  cases b <;> rfl
theorem args_nil (cfg : Cfg) (f : FuncId) (s : St) (j : Nat) : argsA cfg f s j [] = some [] := rfl
theorem args_cons (cfg : Cfg) (f : FuncId) (s : St) (j : Nat) (v : AV) (r : List AV) : argsA cfg f s j (v :: r) = (argA cfg f s j v).bind fun a => (argsA cfg f s (j + 1) r).map (a :: ·) := rfl
/-- A call of trees that gives a tree. -/
theorem callA_int1 (call : FuncId → List Arg → Option Out) (d : Nat) (s : St) (f : FuncId) (k : IntKind) (z : Int) (v : AV) (hc : call f [.tree (.int k z)] = some (.tree v, [[]])) : callA cfg0 call d s f [.int k z] = some (v, s) := by
  simp [callA, argsA, argA, givesL, lendsL, givesOf, lendsOf, hc, backA, resA]
theorem callA_int2 (call : FuncId → List Arg → Option Out) (d : Nat) (s : St) (f : FuncId) (k : IntKind) (z : Int) (k' : IntKind) (z' : Int) (v : AV) (hc : call f [.tree (.int k z), .tree (.int k' z')] = some (.tree v, [[], []])) : callA cfg0 call d s f [.int k z, .int k' z'] = some (v, s) := by
  simp [callA, argsA, argA, givesL, lendsL, givesOf, lendsOf, hc, backA, resA]
theorem gives_L (b : Bool) (l : List Nat) (a : Arg) : givesOf (encL b l) a = none := by cases b <;> cases a <;> rfl
theorem lends_L (b : Bool) (l : List Nat) (a : Arg) : lendsOf (encL b l) a = none := by cases b <;> cases a <;> rfl
theorem callA_L1 (call : FuncId → List Arg → Option Out) (d : Nat) (s : St) (f : FuncId) (b : Bool) (l : List Nat) (v : AV) (hc : call f [.tree (encL b l)] = some (.tree v, [[]])) : callA cfg0 call d s f [encL b l] = some (v, s) := by
  simp [callA, argsA, argA_L, givesL, lendsL, gives_L, lends_L, hc, backA, resA]
theorem callA_L2 (call : FuncId → List Arg → Option Out) (d : Nat) (s : St) (f : FuncId) (b : Bool) (l : List Nat) (b' : Bool) (l' : List Nat) (v : AV) (hc : call f [.tree (encL b l), .tree (encL b' l')] = some (.tree v, [[], []])) : callA cfg0 call d s f [encL b l, encL b' l'] = some (v, s) := by
  simp [callA, argsA, argA_L, givesL, lendsL, gives_L, lends_L, hc, backA, resA]
theorem gives_int (k : IntKind) (z : Int) (a : Arg) : givesOf (.int k z) a = none := by cases a <;> rfl
theorem lends_int (k : IntKind) (z : Int) (a : Arg) : lendsOf (.int k z) a = none := by cases a <;> rfl
theorem callA_Li (call : FuncId → List Arg → Option Out) (d : Nat) (s : St) (f : FuncId) (b : Bool) (l : List Nat) (k : IntKind) (z : Int) (v : AV) (hc : call f [.tree (encL b l), .tree (.int k z)] = some (.tree v, [[], []])) : callA cfg0 call d s f [encL b l, .int k z] = some (v, s) := by
  simp [callA, argsA, argA_L, argA_int, givesL, lendsL, gives_L, lends_L, gives_int, lends_int, hc, backA, resA]

theorem compare_eq (n d : Nat) (x y : Nat) : evalFn Try.prog cfg0 n (d+2) 32 [.tree (.int .u64 (x : Int)), .tree (.int .u64 (y : Int))] = some (.tree (.int .i64 (cmpZ x y)), [[], []]) := by
  rw [evalFn_go _ Try.func32 (by unfold Try.f32; rfl) (by unfold Try.f32; decide) (Nat.le_of_ble_eq_true (by unfold Try.f32; rfl)) (by kernel_rfl)]
  simp only [cmpZ]
  by_cases h : x < y
  · have h' : (x : Int) < y := by omega
    simp only [den_seq, den_region, den_ret, den_skip, den_label, den_exit, den_block, den_scope, den_condV, condV_bool, ops1_cons, ops1_guarded, guardV_bool, guardV_tup, guardD_0, guardD_s, ops1_nil, seqK_normal, seqK_ret, seqK_exit, blockK_normal, blockK_exit, blockK_ret, loopK_normal, loopK_exit, loopK_ret, finK_normal, finK_ret, opK_some, opA_move, opA_assign, opA_pick, pickA_bool, opA_len, opA_bin, opA_un, opA_ia, opA_load, opA_store, opA_conv, opA_make, opA_append, opA_copy, opA_max, opA_min, opA_slice, opA_call, opA_callq, opA_extract, extA_tup, Option.getD_some, Option.getD_none, setO_some, setO_none, ev_tmp, ev_int, ev_bool, ev_nil, ev_fn, upd_at, Option.map_some, Option.map_none, Option.bind_some, List.map_cons, List.map_nil, List.cons_append, List.nil_append, reduceIte, Nat.reduceEqDiff, Nat.reduceAdd, decide_true, decide_false, Bool.true_eq_false, Bool.false_eq_true, env0, List.getElem?_cons_zero, List.getElem?_cons_succ, len22, lenN22, k_lss, k_leq, k_gtr, k_geq, k_eql, k_neq, ia22, ld31, conv31_40, conv40_31, callA_int1 _ _ _ _ _ _ _ (nan_eq n d _), h, h']
    rfl
  · by_cases g : y < x
    · have h' : ¬ (x : Int) < y := by omega
      have g' : (x : Int) > y := by omega
      simp only [den_seq, den_region, den_ret, den_skip, den_label, den_exit, den_block, den_scope, den_condV, condV_bool, ops1_cons, ops1_guarded, guardV_bool, guardV_tup, guardD_0, guardD_s, ops1_nil, seqK_normal, seqK_ret, seqK_exit, blockK_normal, blockK_exit, blockK_ret, loopK_normal, loopK_exit, loopK_ret, finK_normal, finK_ret, opK_some, opA_move, opA_assign, opA_pick, pickA_bool, opA_len, opA_bin, opA_un, opA_ia, opA_load, opA_store, opA_conv, opA_make, opA_append, opA_copy, opA_max, opA_min, opA_slice, opA_call, opA_callq, opA_extract, extA_tup, Option.getD_some, Option.getD_none, setO_some, setO_none, ev_tmp, ev_int, ev_bool, ev_nil, ev_fn, upd_at, Option.map_some, Option.map_none, Option.bind_some, List.map_cons, List.map_nil, List.cons_append, List.nil_append, reduceIte, Nat.reduceEqDiff, Nat.reduceAdd, decide_true, decide_false, Bool.true_eq_false, Bool.false_eq_true, env0, List.getElem?_cons_zero, List.getElem?_cons_succ, len22, lenN22, k_lss, k_leq, k_gtr, k_geq, k_eql, k_neq, ia22, ld31, conv31_40, conv40_31, callA_int1 _ _ _ _ _ _ _ (nan_eq n d _), h, h', g, g']
      rfl
    · have h' : ¬ (x : Int) < y := by omega
      have g' : ¬ (x : Int) > y := by omega
      simp only [den_seq, den_region, den_ret, den_skip, den_label, den_exit, den_block, den_scope, den_condV, condV_bool, ops1_cons, ops1_guarded, guardV_bool, guardV_tup, guardD_0, guardD_s, ops1_nil, seqK_normal, seqK_ret, seqK_exit, blockK_normal, blockK_exit, blockK_ret, loopK_normal, loopK_exit, loopK_ret, finK_normal, finK_ret, opK_some, opA_move, opA_assign, opA_pick, pickA_bool, opA_len, opA_bin, opA_un, opA_ia, opA_load, opA_store, opA_conv, opA_make, opA_append, opA_copy, opA_max, opA_min, opA_slice, opA_call, opA_callq, opA_extract, extA_tup, Option.getD_some, Option.getD_none, setO_some, setO_none, ev_tmp, ev_int, ev_bool, ev_nil, ev_fn, upd_at, Option.map_some, Option.map_none, Option.bind_some, List.map_cons, List.map_nil, List.cons_append, List.nil_append, reduceIte, Nat.reduceEqDiff, Nat.reduceAdd, decide_true, decide_false, Bool.true_eq_false, Bool.false_eq_true, env0, List.getElem?_cons_zero, List.getElem?_cons_succ, len22, lenN22, k_lss, k_leq, k_gtr, k_geq, k_eql, k_neq, ia22, ld31, conv31_40, conv40_31, callA_int1 _ _ _ _ _ _ _ (nan_eq n d _), h, h', g, g']
      rfl
end Go.Ab
