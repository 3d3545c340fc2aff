/- What the program's Cmp, Len compute. Conditions: limbs in range, not too many. -/
import Derived.Test.YtlmffjpfjbhliaaAbL3
namespace Go.Ab
open Go.Proofs
set_option maxRecDepth 100000
set_option linter.unusedSimpArgs false

theorem at_call (n d : Nat) (b : Bool) (l : List Nat) (hl : Limbs l) (k : Nat) (D : Nat) (s : St) : callA cfg0 (evalFn Try.prog cfg0 n (d+1)) D s 33 [encL b l, .int .i64 (k : Int)] = some (.int .u64 ((l.getD k 0 : Nat) : Int), s) :=
  callA_Li _ _ _ _ _ _ _ _ _ (at_eq n d b l hl k (by omega))
theorem compare_call (n d : Nat) (x y : Nat) (D : Nat) (s : St) : callA cfg0 (evalFn Try.prog cfg0 n (d+2)) D s 32 [.int .u64 (x : Int), .int .u64 (y : Int)] = some (.int .i64 (cmpZ x y), s) :=
  callA_int2 _ _ _ _ _ _ _ _ _ (compare_eq n d x y)
theorem max_eq (a b : Nat) : foldA max2A (.int .i64 (a : Int)) [.int .i64 (b : Int)] = some (.int .i64 ((max a b : Nat) : Int)) := by
  simp only [foldA, max2A, Option.bind_some]
  congr 2
  rcases Nat.le_total a b with h | h
  · rw [Nat.max_eq_right h]
    split <;> omega
  · rw [Nat.max_eq_left h]
    split <;> omega

theorem cmp_eq (n d : Nat) (b b' : Bool) (l m : List Nat) (hl : Limbs l) (hm : Limbs m) (hn : l.length < n) (hn' : m.length < n) (hll : l.length ≤ 1000000) (hml : m.length ≤ 1000000) :
    evalFn Try.prog cfg0 n (d+3) 11 [.tree (encL b l), .tree (encL b' m)] = some (.tree (.int .i64 (cmpZ (val l) (val m))), [[], []]) := by
  rw [evalFn_go _ Try.func11 (by unfold Try.f11; rfl) (by unfold Try.f11; decide) (Nat.le_of_ble_eq_true (by unfold Try.f11; rfl)) (by kernel_rfl)]
  have e0 := i_sub Try.prog 3 ((max l.length m.length : Nat) : Int) 1 (by omega) (by omega)
  simp only [den_seq, den_region, den_ret, den_skip, den_label, den_exit, den_block, den_scope, den_condV, condV_bool, ops1_cons, ops1_guarded, guardV_bool, guardV_tup, guardD_0, guardD_s, ops1_nil, seqK_normal, seqK_ret, seqK_exit, blockK_normal, blockK_exit, blockK_ret, loopK_normal, loopK_exit, loopK_ret, finK_normal, finK_ret, opK_some, opA_move, opA_assign, opA_pick, pickA_bool, opA_len, opA_bin, opA_un, opA_ia, opA_load, opA_store, opA_conv, opA_make, opA_append, opA_copy, opA_max, opA_min, opA_slice, opA_call, opA_callq, opA_extract, extA_tup, Option.getD_some, Option.getD_none, setO_some, setO_none, ev_tmp, ev_int, ev_bool, ev_nil, ev_fn, upd_at, Option.map_some, Option.map_none, Option.bind_some, List.map_cons, List.map_nil, List.cons_append, List.nil_append, reduceIte, Nat.reduceEqDiff, Nat.reduceAdd, decide_true, decide_false, Bool.true_eq_false, Bool.false_eq_true, env0, List.getElem?_cons_zero, List.getElem?_cons_succ, len22, lenN22, k_lss, k_leq, k_gtr, k_geq, k_eql, k_neq, ia22, ld31, conv31_40, conv40_31, st0_2, max_eq, e0, den_loop]
  refine loop_ends (X := Nat) (fun k env s => env 0 = encL b l ∧ env 1 = encL b' m ∧ env 5 = .int .i64 ((k : Int) - 1) ∧ s = dead ∧ k ≤ max l.length m.length ∧ Alike l m k) id (fun _ => (.tree (.int .i64 (cmpZ (val l) (val m))), [[], []])) ?_ n (max l.length m.length) _ _ (by simp only [id]; omega) ⟨rfl, rfl, rfl, rfl, Nat.le_refl _, alike_top _ _ _ (by omega) (by omega)⟩
  intro k x hx ih env s ⟨h0, h1, h5, hs, hk, hv⟩
  subst hs
  by_cases hp : x = 0
  · subst hp
    have q1 : ¬ (((0 : Nat) : Int) - 1 ≥ 0) := by omega
    simp only [den_seq, den_region, den_ret, den_skip, den_label, den_exit, den_block, den_scope, den_condV, condV_bool, ops1_cons, ops1_guarded, guardV_bool, guardV_tup, guardD_0, guardD_s, ops1_nil, seqK_normal, seqK_ret, seqK_exit, blockK_normal, blockK_exit, blockK_ret, loopK_normal, loopK_exit, loopK_ret, finK_normal, finK_ret, opK_some, opA_move, opA_assign, opA_pick, pickA_bool, opA_len, opA_bin, opA_un, opA_ia, opA_load, opA_store, opA_conv, opA_make, opA_append, opA_copy, opA_max, opA_min, opA_slice, opA_call, opA_callq, opA_extract, extA_tup, Option.getD_some, Option.getD_none, setO_some, setO_none, ev_tmp, ev_int, ev_bool, ev_nil, ev_fn, upd_at, Option.map_some, Option.map_none, Option.bind_some, List.map_cons, List.map_nil, List.cons_append, List.nil_append, reduceIte, Nat.reduceEqDiff, Nat.reduceAdd, decide_true, decide_false, Bool.true_eq_false, Bool.false_eq_true, len22, lenN22, k_lss, k_leq, k_gtr, k_geq, k_eql, k_neq, ia22, ld31, conv31_40, conv40_31, h0, h1, h5, q1]
    rw [alike_0 _ _ hv, cmpZ_self]
    exact finish_tree _ _ _ _ _ _ (.int .i64 0) _ _ (by simp only [upd_at, reduceIte]) rfl rfl
  · obtain ⟨y, rfl⟩ : ∃ y, x = y + 1 := ⟨x - 1, by omega⟩
    have p2 : ((y + 1 : Nat) : Int) - 1 = (y : Int) := by omega
    rw [p2] at h5
    have p6 : (y : Int) ≥ 0 := by omega
    have e1 := i_sub Try.prog 3 (y : Int) 1 (by omega) (by omega)
    have c1 := at_call n (d + 1) b l hl y
    have c2 := at_call n (d + 1) b' m hm y
    have c3 := compare_call n d (l.getD y 0) (m.getD y 0)
    by_cases hz : l.getD y 0 = m.getD y 0
    · have p5 : (cmpZ (l.getD y 0) (m.getD y 0) != 0) = false := by rw [hz, cmpZ_self]; rfl
      simp only [den_seq, den_region, den_ret, den_skip, den_label, den_exit, den_block, den_scope, den_condV, condV_bool, ops1_cons, ops1_guarded, guardV_bool, guardV_tup, guardD_0, guardD_s, ops1_nil, seqK_normal, seqK_ret, seqK_exit, blockK_normal, blockK_exit, blockK_ret, loopK_normal, loopK_exit, loopK_ret, finK_normal, finK_ret, opK_some, opA_move, opA_assign, opA_pick, pickA_bool, opA_len, opA_bin, opA_un, opA_ia, opA_load, opA_store, opA_conv, opA_make, opA_append, opA_copy, opA_max, opA_min, opA_slice, opA_call, opA_callq, opA_extract, extA_tup, Option.getD_some, Option.getD_none, setO_some, setO_none, ev_tmp, ev_int, ev_bool, ev_nil, ev_fn, upd_at, Option.map_some, Option.map_none, Option.bind_some, List.map_cons, List.map_nil, List.cons_append, List.nil_append, reduceIte, Nat.reduceEqDiff, Nat.reduceAdd, decide_true, decide_false, Bool.true_eq_false, Bool.false_eq_true, len22, lenN22, k_lss, k_leq, k_gtr, k_geq, k_eql, k_neq, ia22, ld31, conv31_40, conv40_31, h0, h1, h5, p6, c1, c2, c3, e1, p5]
      refine ih y _ _ (Nat.lt_succ_self _) rfl ⟨?_, ?_, ?_, rfl, by omega, alike_down _ _ _ hv hz⟩
      · simp only [upd_at, reduceIte, Nat.reduceEqDiff, h0]
      · simp only [upd_at, reduceIte, Nat.reduceEqDiff, h1]
      · simp only [upd_at, reduceIte, Nat.reduceEqDiff]
    · have p5 : (cmpZ (l.getD y 0) (m.getD y 0) != 0) = true := by rw [bne_iff_ne]; intro h; exact hz ((cmpZ_eq0 _ _).mp h)
      simp only [den_seq, den_region, den_ret, den_skip, den_label, den_exit, den_block, den_scope, den_condV, condV_bool, ops1_cons, ops1_guarded, guardV_bool, guardV_tup, guardD_0, guardD_s, ops1_nil, seqK_normal, seqK_ret, seqK_exit, blockK_normal, blockK_exit, blockK_ret, loopK_normal, loopK_exit, loopK_ret, finK_normal, finK_ret, opK_some, opA_move, opA_assign, opA_pick, pickA_bool, opA_len, opA_bin, opA_un, opA_ia, opA_load, opA_store, opA_conv, opA_make, opA_append, opA_copy, opA_max, opA_min, opA_slice, opA_call, opA_callq, opA_extract, extA_tup, Option.getD_some, Option.getD_none, setO_some, setO_none, ev_tmp, ev_int, ev_bool, ev_nil, ev_fn, upd_at, Option.map_some, Option.map_none, Option.bind_some, List.map_cons, List.map_nil, List.cons_append, List.nil_append, reduceIte, Nat.reduceEqDiff, Nat.reduceAdd, decide_true, decide_false, Bool.true_eq_false, Bool.false_eq_true, len22, lenN22, k_lss, k_leq, k_gtr, k_geq, k_eql, k_neq, ia22, ld31, conv31_40, conv40_31, h0, h1, h5, p6, c1, c2, c3, e1, p5]
      rw [alike_ne _ _ hl hm _ hv hz]
      exact finish_tree _ _ _ _ _ _ (.int .i64 (cmpZ (l.getD y 0) (m.getD y 0))) _ _ (by simp only [upd_at, reduceIte, Nat.reduceEqDiff]) rfl rfl
end Go.Ab
