/- The statements' own helpers: places, copies, sameness. Conditions: limbs in range. -/
import Derived.Test.YtlmffjpfjbhliaaAbL12
import Derived.Test.YtlmffjpfjbhliaaAbM8
namespace Go.Ab
open Go.Proofs
set_option maxRecDepth 100000
set_option linter.unusedSimpArgs false

theorem i_remZ (P : Program) (t : TypeId) (a b : Int) (hb : b ≠ 0) : binA P .rem t (.int .i64 a) (.int .i64 b) = some (.int .i64 (a.tmod b)) := by
  simp only [binA, intA, if_true]
  rw [if_neg hb]
theorem place_eq (n d : Nat) (v m : Int) (hm : 0 < m) (hm' : m ≤ 1000000) : evalFn Try.prog cfg0 n (d+1) 13 [.tree (.int .i64 v), .tree (.int .i64 m)] = some (.tree (.int .i64 (placeN v m)), [[], []]) := by
  rw [evalFn_go _ Try.func13 (by unfold Try.f13; rfl) (by unfold Try.f13; decide) (Nat.le_of_ble_eq_true (by unfold Try.f13; rfl)) (by kernel_rfl)]
  have hr := place_range v m hm
  have e1 := i_remZ Try.prog 3 v m (by omega)
  have h1 := Int.tmod_lt_of_pos v hm
  unfold placeN at *
  by_cases h : v.tmod m < 0
  · rw [if_pos h] at hr ⊢
    have e2 := i_add Try.prog 3 (v.tmod m) m (by omega) (by omega)
    simp only [den_seq, den_region, den_ret, den_skip, den_label, den_exit, den_block, den_scope, den_condV, condV_bool, ops1_cons, ops1_guarded, guardV_bool, guardV_tup, guardD_0, guardD_s, ops1_nil, seqK_normal, seqK_ret, seqK_exit, blockK_normal, blockK_exit, blockK_ret, loopK_normal, loopK_exit, loopK_ret, finK_normal, finK_ret, opK_some, opA_move, opA_assign, opA_pick, pickA_bool, opA_len, opA_bin, opA_un, opA_ia, opA_load, opA_store, opA_conv, opA_make, opA_append, opA_copy, opA_max, opA_min, opA_slice, opA_call, opA_callq, opA_extract, extA_tup, Option.getD_some, Option.getD_none, setO_some, setO_none, ev_tmp, ev_int, ev_bool, ev_nil, ev_fn, upd_at, Option.map_some, Option.map_none, Option.bind_some, List.map_cons, List.map_nil, List.cons_append, List.nil_append, reduceIte, Nat.reduceEqDiff, Nat.reduceAdd, decide_true, decide_false, Bool.true_eq_false, Bool.false_eq_true, env0, List.getElem?_cons_zero, List.getElem?_cons_succ, k_lss, e1, h, e2]
    exact finish_tree _ _ _ _ _ _ (.int .i64 (v.tmod m + m)) _ _ (by simp only [upd_at, reduceIte]) rfl rfl
  · rw [if_neg h] at hr ⊢
    simp only [den_seq, den_region, den_ret, den_skip, den_label, den_exit, den_block, den_scope, den_condV, condV_bool, ops1_cons, ops1_guarded, guardV_bool, guardV_tup, guardD_0, guardD_s, ops1_nil, seqK_normal, seqK_ret, seqK_exit, blockK_normal, blockK_exit, blockK_ret, loopK_normal, loopK_exit, loopK_ret, finK_normal, finK_ret, opK_some, opA_move, opA_assign, opA_pick, pickA_bool, opA_len, opA_bin, opA_un, opA_ia, opA_load, opA_store, opA_conv, opA_make, opA_append, opA_copy, opA_max, opA_min, opA_slice, opA_call, opA_callq, opA_extract, extA_tup, Option.getD_some, Option.getD_none, setO_some, setO_none, ev_tmp, ev_int, ev_bool, ev_nil, ev_fn, upd_at, Option.map_some, Option.map_none, Option.bind_some, List.map_cons, List.map_nil, List.cons_append, List.nil_append, reduceIte, Nat.reduceEqDiff, Nat.reduceAdd, decide_true, decide_false, Bool.true_eq_false, Bool.false_eq_true, env0, List.getElem?_cons_zero, List.getElem?_cons_succ, k_lss, e1, h]
    exact finish_tree _ _ _ _ _ _ (.int .i64 (v.tmod m)) _ _ (by simp only [upd_at, reduceIte]) rfl rfl
theorem cPlace (n d : Nat) (v m : Int) (hm : 0 < m) (hm' : m ≤ 1000000) (D : Nat) (s : St) : callA cfg0 (evalFn Try.prog cfg0 n (d+1)) D s 13 [.int .i64 v, .int .i64 m] = some (.int .i64 (placeN v m), s) :=
  callA_int2 _ _ _ _ _ _ _ _ _ (place_eq n d v m hm hm')

theorem same_eq (n d : Nat) (b b' : Bool) (l : List Nat) (hn : l.length < n) (hk : l.length ≤ 1000000) : evalFn Try.prog cfg0 n (d+1) 15 [.tree (encL b l), .tree (encL b' l)] = some (.tree (.bool true), [[], []]) := by
  rw [evalFn_go _ Try.func15 (by unfold Try.f15; rfl) (by unfold Try.f15; decide) (Nat.le_of_ble_eq_true (by unfold Try.f15; rfl)) (by kernel_rfl)]
  have p1 : ((l.length : Int) != (l.length : Int)) = false := bne_self_eq_false _
  simp only [den_seq, den_region, den_ret, den_skip, den_label, den_exit, den_block, den_scope, den_condV, condV_bool, ops1_cons, ops1_guarded, guardV_bool, guardV_tup, guardD_0, guardD_s, ops1_nil, seqK_normal, seqK_ret, seqK_exit, blockK_normal, blockK_exit, blockK_ret, loopK_normal, loopK_exit, loopK_ret, finK_normal, finK_ret, opK_some, opA_move, opA_assign, opA_pick, pickA_bool, opA_len, opA_bin, opA_un, opA_ia, opA_load, opA_store, opA_conv, opA_make, opA_append, opA_copy, opA_max, opA_min, opA_slice, opA_call, opA_callq, opA_extract, extA_tup, Option.getD_some, Option.getD_none, setO_some, setO_none, ev_tmp, ev_int, ev_bool, ev_nil, ev_fn, upd_at, Option.map_some, Option.map_none, Option.bind_some, List.map_cons, List.map_nil, List.cons_append, List.nil_append, reduceIte, Nat.reduceEqDiff, Nat.reduceAdd, decide_true, decide_false, Bool.true_eq_false, Bool.false_eq_true, env0, List.getElem?_cons_zero, List.getElem?_cons_succ, len22, lenN22, k_lss, k_leq, k_gtr, k_geq, k_eql, k_neq, ia22, ld31, conv31_40, conv40_31, p1, den_loop]
  refine loop_ends (X := Nat) (fun i env _ => env 0 = encL b l ∧ env 1 = encL b' l ∧ env 5 = .int .i64 (i : Int) ∧ i ≤ l.length) (fun i => l.length - i) (fun _ => (.tree (.bool true), [[], []])) ?_ n 0 _ _ (by omega) ⟨rfl, rfl, rfl, Nat.zero_le _⟩
  intro k i hx ih env s ⟨h0, h1, h5, hi⟩
  by_cases hp : i = l.length
  · subst hp
    have q1 : ¬ ((l.length : Int) < (l.length : Int)) := by omega
    simp only [den_seq, den_region, den_ret, den_skip, den_label, den_exit, den_block, den_scope, den_condV, condV_bool, ops1_cons, ops1_guarded, guardV_bool, guardV_tup, guardD_0, guardD_s, ops1_nil, seqK_normal, seqK_ret, seqK_exit, blockK_normal, blockK_exit, blockK_ret, loopK_normal, loopK_exit, loopK_ret, finK_normal, finK_ret, opK_some, opA_move, opA_assign, opA_pick, pickA_bool, opA_len, opA_bin, opA_un, opA_ia, opA_load, opA_store, opA_conv, opA_make, opA_append, opA_copy, opA_max, opA_min, opA_slice, opA_call, opA_callq, opA_extract, extA_tup, Option.getD_some, Option.getD_none, setO_some, setO_none, ev_tmp, ev_int, ev_bool, ev_nil, ev_fn, upd_at, Option.map_some, Option.map_none, Option.bind_some, List.map_cons, List.map_nil, List.cons_append, List.nil_append, reduceIte, Nat.reduceEqDiff, Nat.reduceAdd, decide_true, decide_false, Bool.true_eq_false, Bool.false_eq_true, len22, lenN22, k_lss, k_leq, k_gtr, k_geq, k_eql, k_neq, ia22, ld31, conv31_40, conv40_31, h0, h1, h5, q1]
    exact finish_tree _ _ _ _ _ _ (.bool true) _ _ (by simp only [upd_at, reduceIte]) rfl rfl
  · have q1 : (i : Int) < (l.length : Int) := by omega
    have q2 : (0 : Int) ≤ (i : Int) := by omega
    have q3 : i < l.length := by omega
    have p2 : ((l.getD i 0 : Int) != (l.getD i 0 : Int)) = false := bne_self_eq_false _
    have f4 := i_add Try.prog 3 (i : Int) 1 (by omega) (by omega)
    simp only [den_seq, den_region, den_ret, den_skip, den_label, den_exit, den_block, den_scope, den_condV, condV_bool, ops1_cons, ops1_guarded, guardV_bool, guardV_tup, guardD_0, guardD_s, ops1_nil, seqK_normal, seqK_ret, seqK_exit, blockK_normal, blockK_exit, blockK_ret, loopK_normal, loopK_exit, loopK_ret, finK_normal, finK_ret, opK_some, opA_move, opA_assign, opA_pick, pickA_bool, opA_len, opA_bin, opA_un, opA_ia, opA_load, opA_store, opA_conv, opA_make, opA_append, opA_copy, opA_max, opA_min, opA_slice, opA_call, opA_callq, opA_extract, extA_tup, Option.getD_some, Option.getD_none, setO_some, setO_none, ev_tmp, ev_int, ev_bool, ev_nil, ev_fn, upd_at, Option.map_some, Option.map_none, Option.bind_some, List.map_cons, List.map_nil, List.cons_append, List.nil_append, reduceIte, Nat.reduceEqDiff, Nat.reduceAdd, decide_true, decide_false, Bool.true_eq_false, Bool.false_eq_true, len22, lenN22, k_lss, k_leq, k_gtr, k_geq, k_eql, k_neq, ia22, ld31, conv31_40, conv40_31, h0, h1, h5, q1, q2, q3, Int.toNat_natCast, p2, f4]
    refine ih (i + 1) _ _ (by omega) rfl ⟨?_, ?_, ?_, by omega⟩
    · simp only [upd_at, reduceIte, Nat.reduceEqDiff, h0]
    · simp only [upd_at, reduceIte, Nat.reduceEqDiff, h1]
    · simp only [upd_at, reduceIte, Nat.reduceEqDiff]; rfl
theorem cSame (n d : Nat) (hn : 100000 ≤ n) {w w' : AV} {l : List Nat} (h : Sh w l) (h' : Sh w' l) (hk : l.length ≤ 1000) (D : Nat) (s : St) : callA cfg0 (evalFn Try.prog cfg0 n (d+1)) D s 15 [w, w'] = some (.bool true, s) :=
  callA_S2 _ _ _ _ h h' _ fun b b' => same_eq n d b b' l (by omega) (by omega)
theorem cSameR (n d : Nat) (hn : 100000 ≤ n) (v k : Nat) (hk : k ≤ 1000) (h : v < B ^ k) (D : Nat) (s : St) : callA cfg0 (evalFn Try.prog cfg0 n (d+1)) D s 15 [encR v, encR v] = some (.bool true, s) :=
  cSame n d hn (sh_L _ _) (sh_L _ _) (Nat.le_trans (digs_len v k h) hk) D s

theorem finish_any (k : Bool) (xs : List Arg) (t : Nat) (env : Env) (s s' : St) (v : AV) (r : Res) (os : List (List AV)) (hv : env t = v) (hf : finish1 k xs.length s v = some (r, s')) (ho : outsA s' 0 xs = some os) :
    finish k xs #[.tmp t] env s = some (r, os) := by
  simp only [finish, hv, hf, ho, Option.bind_some, Option.map_some]
/-- A copy, and the room behind it. -/
theorem limbs_eq (n d : Nat) (b : Bool) (l : List Nat) (hl : l.length ≤ 1000000) : evalFn Try.prog cfg0 n (d+1) 12 [.tree (encL b l)] = some (.tok (encC l) l.length 1, [[]]) := by
  rw [evalFn_go _ Try.func12 (by unfold Try.f12; rfl) (by unfold Try.f12; decide) (Nat.le_of_ble_eq_true (by unfold Try.f12; rfl)) (by kernel_rfl)]
  obtain ⟨s', p, t, ea, hp⟩ := append22t 4 dead (.sl [] 0 .tight) [] l b (hold_nil _) (by simp only [List.length_nil]; omega)
  rw [List.nil_append] at ea
  simp only [den_seq, den_region, den_ret, den_skip, den_label, den_exit, den_block, den_scope, den_condV, condV_bool, ops1_cons, ops1_guarded, guardV_bool, guardV_tup, guardD_0, guardD_s, ops1_nil, seqK_normal, seqK_ret, seqK_exit, blockK_normal, blockK_exit, blockK_ret, loopK_normal, loopK_exit, loopK_ret, finK_normal, finK_ret, opK_some, opA_move, opA_assign, opA_pick, pickA_bool, opA_len, opA_bin, opA_un, opA_ia, opA_load, opA_store, opA_conv, opA_make, opA_append, opA_copy, opA_max, opA_min, opA_slice, opA_call, opA_callq, opA_extract, extA_tup, Option.getD_some, Option.getD_none, setO_some, setO_none, ev_tmp, ev_int, ev_bool, ev_nil, ev_fn, upd_at, Option.map_some, Option.map_none, Option.bind_some, List.map_cons, List.map_nil, List.cons_append, List.nil_append, reduceIte, Nat.reduceEqDiff, Nat.reduceAdd, decide_true, decide_false, Bool.true_eq_false, Bool.false_eq_true, env0, List.getElem?_cons_zero, List.getElem?_cons_succ, st0_1, ea]
  have hf : finish1 (cfg0.keep 12) 1 s' (.sl (encC l) l.length (.tok p t)) = some (.tok (encC l) l.length 1, s') := by
    simp [finish1, hp, show cfg0.keep 12 = true from rfl]
  refine finish_any _ _ _ _ _ _ (.sl (encC l) l.length (.tok p t)) _ _ (by simp only [upd_at, reduceIte]) hf rfl
theorem cLimbsT (n d : Nat) {w : AV} {l : List Nat} (h : Sh w l) (hl : l.length ≤ 1000000) (D : Nat) (s : St) : callA cfg0 (evalFn Try.prog cfg0 n (d+1)) D s 12 [w] = some (.sl (encC l) l.length (.tok D ((s D).t + 1)), upd s D ⟨(s D).t + 1, .tok 1⟩) := by
  obtain ⟨b, e⟩ := h.arg 12 s 0
  have hc := limbs_eq n d b l hl
  simp [callA, argsA, e, givesL, lendsL, h.gives, h.lends, hc, backA, resA, flatR]
theorem cLimbs (n d : Nat) {w : AV} {l : List Nat} (h : Sh w l) (hl : l.length ≤ 1000000) (D : Nat) (s : St) : ∃ v' s', callA cfg0 (evalFn Try.prog cfg0 n (d+1)) D s 12 [w] = some (v', s') ∧ Hold s' v' l ∧ Sh v' l := by
  obtain ⟨b, e⟩ := h.arg 12 s 0
  refine ⟨.sl (encC l) l.length (.tok D ((s D).t + 1)), upd s D ⟨(s D).t + 1, .tok 1⟩, ?_, .inr (.inl ⟨D, (s D).t + 1, rfl, upd_self _ _ _⟩), ⟨_, rfl⟩⟩
  have hc := limbs_eq n d b l hl
  simp [callA, argsA, e, givesL, lendsL, h.gives, h.lends, hc, backA, resA, flatR]
end Go.Ab
