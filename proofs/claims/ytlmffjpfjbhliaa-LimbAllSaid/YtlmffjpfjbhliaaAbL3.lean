/- What the program's Norm computes. Conditions: limbs in range, not too many. -/
import Derived.Test.YtlmffjpfjbhliaaAbL2
import Derived.Test.YtlmffjpfjbhliaaAbM1
namespace Go.Ab
open Go.Proofs
set_option maxRecDepth 100000
set_option linter.unusedSimpArgs false

def encR (v : Nat) : AV := encL (decide (v = 0)) (digs v)
def dead : St := fun _ => ⟨0, .dead⟩
theorem st0_1 (v : AV) : st0 [.tree v] = dead := by
  funext j; cases j <;> simp [st0, dead]
theorem st0_2 (v w : AV) : st0 [.tree v, .tree w] = dead := by
  funext j
  match j with
  | 0 | 1 | _ + 2 => simp [st0, dead]
theorem rep_zero (k : Nat) : rep k [AV.int .u32 0] = encC (List.replicate k 0) := by
  induction k with
  | zero => rfl
  | succ k ih => simp only [rep, List.replicate_succ, List.flatten_cons, encC, List.map_cons] at *; rw [ih]; rfl
theorem make22 (d : Nat) (s : St) (z : Int) (h : 0 ≤ z) (h' : z ≤ 2147483648) : makeA Try.prog 22 d s (.int .i64 z) (.int .i64 z) = some (.own d ((s d).t + 1) 0 z.toNat 1, upd s d ⟨(s d).t + 1, .buf (encC (List.replicate z.toNat 0))⟩) := by
  simp only [makeA, tk22, esz31, zero31, by31, Option.bind_some, rep_zero]
  rw [if_pos ⟨h, Int.le_refl _, h', by decide, rfl⟩]
theorem splice_enc (m l : List Nat) (k : Nat) : splice (encC m) k (encC l) = encC (m.take k ++ l ++ m.drop (k + l.length)) := by
  simp [splice, encC]
theorem copy22 (s : St) (p t : Nat) (m l : List Nat) (b : Bool) : copyA Try.prog #[22, 22] (upd s p ⟨t, .buf (encC m)⟩) (.own p t 0 m.length 1) (encL b l) =
    some (.int .i64 (Nat.min l.length m.length : Nat), upd (upd s p ⟨t, .buf (encC m)⟩) p ⟨t, .buf (encC (l.take m.length ++ m.drop l.length))⟩) := by
  have e1 : (#[22, 22] : Array TypeId)[0]? = some 22 := rfl
  have e2 : (#[22, 22] : Array TypeId)[1]? = some 22 := rfl
  simp only [copyA, e1, e2, Option.map_some, tk22, esz31, Option.bind_some, moreA, encL, encC_len, Nat.mul_one, if_true, upd_at, reduceIte]
  rw [if_pos ⟨trivial, trivial, by omega⟩]
  simp only [encC_take, splice_enc, List.take_zero, List.nil_append, Nat.zero_add]
  congr 6
  rw [List.length_take]
  congr 1
  · rw [show l.length.min m.length = min l.length m.length from rfl]
    rcases Nat.le_total l.length m.length with h | h
    · rw [Nat.min_eq_left h, List.take_of_length_le (Nat.le_refl _), List.take_of_length_le h]
    · rw [Nat.min_eq_right h]
  · rw [show l.length.min m.length = min l.length m.length from rfl]
    rcases Nat.le_total l.length m.length with h | h
    · rw [Nat.min_eq_left h, Nat.min_eq_left (Nat.le_refl _)]
    · rw [Nat.min_eq_right h, Nat.min_eq_left h, List.drop_of_length_le (Nat.le_refl _), List.drop_of_length_le h]
theorem own_ends (s : St) (np p t k : Nat) (xs : List AV) (h : k * 1 ≤ xs.length) : finish1 false np (upd s p ⟨t, .buf xs⟩) (.own p t 0 k 1) = some (.tree (.sl (xs.take k) k .loose), upd (upd s p ⟨t, .buf xs⟩) p ⟨t, .frz xs⟩) := by
  have : k ≤ xs.length := by omega
  simp [finish1, settle, upd_at, this]

theorem finish_tree (k : Bool) (xs : List Arg) (t : Nat) (env : Env) (s s' : St) (v v' : AV) (os : List (List AV)) (hv : env t = v) (hf : finish1 k xs.length s v = some (.tree v', s')) (ho : outsA s' 0 xs = some os) :
    finish k xs #[.tmp t] env s = some (.tree v', os) := by
  simp only [finish, hv, hf, ho, Option.bind_some, Option.map_some]

theorem norm_eq (n d : Nat) (b : Bool) (l : List Nat) (hl : Limbs l) (hn : l.length < n) (hlen : l.length ≤ 1000000) : evalFn Try.prog cfg0 n (d+1) 16 [.tree (encL b l)] = some (.tree (encR (val l)), [[]]) := by
  rw [evalFn_go _ Try.func16 (by unfold Try.f16; rfl) (by unfold Try.f16; decide) (Nat.le_of_ble_eq_true (by unfold Try.f16; rfl)) (by kernel_rfl)]
  simp only [den_seq, den_region, den_ret, den_skip, den_label, den_exit, den_block, den_scope, den_condV, condV_bool, ops1_cons, ops1_guarded, guardV_bool, guardV_tup, guardD_0, guardD_s, ops1_nil, seqK_normal, seqK_ret, seqK_exit, blockK_normal, blockK_exit, blockK_ret, loopK_normal, loopK_exit, loopK_ret, finK_normal, finK_ret, opK_some, opA_move, opA_assign, opA_pick, pickA_bool, opA_len, opA_bin, opA_un, opA_ia, opA_load, opA_store, opA_conv, opA_make, opA_append, opA_copy, opA_max, opA_min, opA_slice, opA_call, opA_callq, opA_extract, extA_tup, Option.getD_some, Option.getD_none, setO_some, setO_none, ev_tmp, ev_int, ev_bool, ev_nil, ev_fn, upd_at, Option.map_some, Option.map_none, Option.bind_some, List.map_cons, List.map_nil, List.cons_append, List.nil_append, reduceIte, Nat.reduceEqDiff, Nat.reduceAdd, decide_true, decide_false, Bool.true_eq_false, Bool.false_eq_true, env0, List.getElem?_cons_zero, List.getElem?_cons_succ, len22, lenN22, k_lss, k_leq, k_gtr, k_geq, k_eql, k_neq, ia22, ld31, conv31_40, conv40_31, st0_1, den_loop]
  refine loop_ends (X := Nat) (fun k env s => env 0 = encL b l ∧ env 3 = .int .i64 (k : Int) ∧ s = dead ∧ k ≤ l.length ∧ val (l.take k) = val l) id (fun _ => (.tree (encR (val l)), [[]])) ?_ n l.length _ _ hn ⟨rfl, rfl, rfl, Nat.le_refl _, by simp⟩
  intro k x hx ih env s ⟨h0, h3, hs, hk, hv⟩
  subst hs
  by_cases hp : x = 0
  · subst hp
    have q1 : ¬ (((0 : Nat) : Int) > 0) := by omega
    have q2 : ((((0 : Nat) : Int)) == 0) = true := rfl
    have hv0 : val l = 0 := by rw [← hv]; rfl
    simp only [den_seq, den_region, den_ret, den_skip, den_label, den_exit, den_block, den_scope, den_condV, condV_bool, ops1_cons, ops1_guarded, guardV_bool, guardV_tup, guardD_0, guardD_s, ops1_nil, seqK_normal, seqK_ret, seqK_exit, blockK_normal, blockK_exit, blockK_ret, loopK_normal, loopK_exit, loopK_ret, finK_normal, finK_ret, opK_some, opA_move, opA_assign, opA_pick, pickA_bool, opA_len, opA_bin, opA_un, opA_ia, opA_load, opA_store, opA_conv, opA_make, opA_append, opA_copy, opA_max, opA_min, opA_slice, opA_call, opA_callq, opA_extract, extA_tup, Option.getD_some, Option.getD_none, setO_some, setO_none, ev_tmp, ev_int, ev_bool, ev_nil, ev_fn, upd_at, Option.map_some, Option.map_none, Option.bind_some, List.map_cons, List.map_nil, List.cons_append, List.nil_append, reduceIte, Nat.reduceEqDiff, Nat.reduceAdd, decide_true, decide_false, Bool.true_eq_false, Bool.false_eq_true, len22, lenN22, k_lss, k_leq, k_gtr, k_geq, k_eql, k_neq, ia22, ld31, conv31_40, conv40_31, h0, h3, q1, q2]
    rw [hv0]
    rw [show encR 0 = .sl [] 0 .tight by rw [encR, digs_0]; rfl]
    exact finish_tree _ _ _ _ _ _ (.sl [] 0 .tight) _ _ (by simp only [upd_at, reduceIte]) rfl rfl
  · obtain ⟨y, rfl⟩ : ∃ y, x = y + 1 := ⟨x - 1, by omega⟩
    have p1 : ((y + 1 : Nat) : Int) > 0 := by omega
    have p2 : ((y + 1 : Nat) : Int) - 1 = (y : Int) := by omega
    have p3 : (y : Int) < l.length := by omega
    have p4 : y < l.length := by omega
    have p6 : (0 : Int) ≤ y := by omega
    have e1 : binA Try.prog .sub 3 (.int .i64 ((y + 1 : Nat) : Int)) (.int .i64 1) = some (.int .i64 (y : Int)) := by rw [i_sub _ _ _ _ (by omega) (by omega), p2]
    by_cases hz : l.getD y 0 = 0
    · have p5 : (((l.getD y 0 : Nat) : Int) == 0) = true := by rw [hz]; rfl
      simp only [den_seq, den_region, den_ret, den_skip, den_label, den_exit, den_block, den_scope, den_condV, condV_bool, ops1_cons, ops1_guarded, guardV_bool, guardV_tup, guardD_0, guardD_s, ops1_nil, seqK_normal, seqK_ret, seqK_exit, blockK_normal, blockK_exit, blockK_ret, loopK_normal, loopK_exit, loopK_ret, finK_normal, finK_ret, opK_some, opA_move, opA_assign, opA_pick, pickA_bool, opA_len, opA_bin, opA_un, opA_ia, opA_load, opA_store, opA_conv, opA_make, opA_append, opA_copy, opA_max, opA_min, opA_slice, opA_call, opA_callq, opA_extract, extA_tup, Option.getD_some, Option.getD_none, setO_some, setO_none, ev_tmp, ev_int, ev_bool, ev_nil, ev_fn, upd_at, Option.map_some, Option.map_none, Option.bind_some, List.map_cons, List.map_nil, List.cons_append, List.nil_append, reduceIte, Nat.reduceEqDiff, Nat.reduceAdd, decide_true, decide_false, Bool.true_eq_false, Bool.false_eq_true, len22, lenN22, k_lss, k_leq, k_gtr, k_geq, k_eql, k_neq, ia22, ld31, conv31_40, conv40_31, h0, h3, p1, e1, p6, p3, Int.toNat_natCast, p4, p5]
      refine ih y _ _ (Nat.lt_succ_self _) rfl ⟨?_, ?_, rfl, by omega, ?_⟩
      · simp only [upd_at, reduceIte, Nat.reduceEqDiff, h0]
      · simp only [upd_at, reduceIte, Nat.reduceEqDiff]
      · rw [← hv, val_take_succ _ _ p4, hz, Nat.mul_zero, Nat.add_zero]
    · have p5 : (((l.getD y 0 : Nat) : Int) == 0) = false := by
        rw [beq_eq_false_iff_ne]; omega
      have p7 : (((y + 1 : Nat) : Int) == 0) = false := by
        rw [beq_eq_false_iff_ne]; omega
      have e2 := make22 22 dead ((y + 1 : Nat) : Int) (by omega) (by omega)
      rw [Int.toNat_natCast] at e2
      have e3 := copy22 dead 22 1 (List.replicate (y + 1) 0) l b
      rw [List.length_replicate] at e3
      have e4 : (dead 22).t + 1 = 1 := rfl
      simp only [den_seq, den_region, den_ret, den_skip, den_label, den_exit, den_block, den_scope, den_condV, condV_bool, ops1_cons, ops1_guarded, guardV_bool, guardV_tup, guardD_0, guardD_s, ops1_nil, seqK_normal, seqK_ret, seqK_exit, blockK_normal, blockK_exit, blockK_ret, loopK_normal, loopK_exit, loopK_ret, finK_normal, finK_ret, opK_some, opA_move, opA_assign, opA_pick, pickA_bool, opA_len, opA_bin, opA_un, opA_ia, opA_load, opA_store, opA_conv, opA_make, opA_append, opA_copy, opA_max, opA_min, opA_slice, opA_call, opA_callq, opA_extract, extA_tup, Option.getD_some, Option.getD_none, setO_some, setO_none, ev_tmp, ev_int, ev_bool, ev_nil, ev_fn, upd_at, Option.map_some, Option.map_none, Option.bind_some, List.map_cons, List.map_nil, List.cons_append, List.nil_append, reduceIte, Nat.reduceEqDiff, Nat.reduceAdd, decide_true, decide_false, Bool.true_eq_false, Bool.false_eq_true, len22, lenN22, k_lss, k_leq, k_gtr, k_geq, k_eql, k_neq, ia22, ld31, conv31_40, conv40_31, h0, h3, p1, e1, p6, p3, Int.toNat_natCast, p4, p5, p7, e2, e3, e4]
      have ec : l.take (y + 1) ++ (List.replicate (y + 1) 0).drop l.length = l.take (y + 1) := by
        rw [List.drop_of_length_le (by simp; omega), List.append_nil]
      have el : (l.take (y + 1)).length = y + 1 := by rw [List.length_take]; omega
      have er : encR (val l) = .sl (encC (l.take (y + 1))) (y + 1) .loose := by
        have hd : digs (val l) = l.take (y + 1) := by
          rw [← hv]
          refine digs_val _ (hl.take _) ?_
          intro x hx
          rw [List.getLast?_eq_getElem?, el, Nat.add_sub_cancel, List.getElem?_take, if_pos (Nat.lt_succ_self y)] at hx
          rw [List.getD_eq_getElem?_getD, hx] at hz
          exact hz
        have hne : val l ≠ 0 := by
          intro h
          rw [h, digs_0] at hd
          rw [← hd] at el
          cases el
        rw [encR, hd, encL, el]
        simp [hne, gr]
      rw [ec, er]
      have := own_ends (upd dead 22 ⟨1, .buf (encC (List.replicate (y + 1) 0))⟩) 1 22 1 (y + 1) (encC (l.take (y + 1))) (by rw [encC_len, el]; omega)
      have ht : (encC (l.take (y + 1))).take (y + 1) = encC (l.take (y + 1)) := List.take_of_length_le (by rw [encC_len, el]; exact Nat.le_refl _)
      rw [ht] at this
      exact finish_tree _ _ _ _ _ _ (.own 22 1 0 (y + 1) 1) _ _ (by simp only [upd_at, reduceIte, Nat.reduceEqDiff]) this rfl
end Go.Ab
