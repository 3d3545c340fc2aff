/- What the program's Mul computes. Conditions: limbs in range, not too many. -/
import Derived.Test.YtlmffjpfjbhliaaAbL8
import Derived.Test.YtlmffjpfjbhliaaAbM6
namespace Go.Ab
open Go.Proofs
set_option maxRecDepth 100000
set_option linter.unusedSimpArgs false

theorem fnMul_eq (n d : Nat) (b b' : Bool) (l m : List Nat) (hl : Limbs l) (hm : Limbs m) (hn : l.length + m.length + 2 < n) (hll : l.length ≤ 100000) (hml : m.length ≤ 100000) :
    evalFn Try.prog cfg0 n (d+2) 19 [.tree (encL b l), .tree (encL b' m)] = some (.tree (encR (val l * val m)), [[], []]) := by
  rw [evalFn_go _ Try.func19 (by unfold Try.f19; rfl) (by unfold Try.f19; decide) (Nat.le_of_ble_eq_true (by unfold Try.f19; rfl)) (by kernel_rfl)]
  have e1 := i_add Try.prog 3 (l.length : Int) (m.length : Int) (by omega) (by omega)
  have e2 := make22 16 dead ((l.length : Int) + (m.length : Int)) (by omega) (by omega)
  rw [show ((l.length : Int) + (m.length : Int)).toNat = l.length + m.length by omega] at e2
  have e3 : (dead 16).t + 1 = 1 := rfl
  simp only [den_seq, den_region, den_ret, den_skip, den_label, den_exit, den_block, den_scope, den_condV, condV_bool, ops1_cons, ops1_guarded, guardV_bool, guardV_tup, guardD_0, guardD_s, ops1_nil, seqK_normal, seqK_ret, seqK_exit, blockK_normal, blockK_exit, blockK_ret, loopK_normal, loopK_exit, loopK_ret, finK_normal, finK_ret, opK_some, opA_move, opA_assign, opA_pick, pickA_bool, opA_len, opA_bin, opA_un, opA_ia, opA_load, opA_store, opA_conv, opA_make, opA_append, opA_copy, opA_max, opA_min, opA_slice, opA_call, opA_callq, opA_extract, extA_tup, Option.getD_some, Option.getD_none, setO_some, setO_none, ev_tmp, ev_int, ev_bool, ev_nil, ev_fn, upd_at, Option.map_some, Option.map_none, Option.bind_some, List.map_cons, List.map_nil, List.cons_append, List.nil_append, reduceIte, Nat.reduceEqDiff, Nat.reduceAdd, decide_true, decide_false, Bool.true_eq_false, Bool.false_eq_true, env0, List.getElem?_cons_zero, List.getElem?_cons_succ, len22, lenN22, k_lss, k_leq, k_gtr, k_geq, k_eql, k_neq, ia22, ld31, conv31_40, conv40_31, st0_2, e1, e2, e3, den_loop]
  refine loop_ends (X := Nat × List Nat) (fun x env s => env 1 = encL b' m ∧ env 5 = .own 16 1 0 (l.length + m.length) 1 ∧ env 17 = encL b l ∧ env 18 = .int .i64 (l.length : Int) ∧ env 19 = .int .i64 (x.1 : Int) ∧ s 16 = ⟨1, .buf (encC x.2)⟩ ∧ x.1 ≤ l.length ∧ x.2.length = l.length + m.length ∧ Limbs x.2 ∧ val x.2 = val (l.take x.1) * val m) (fun x => l.length - x.1) (fun _ => (.tree (encR (val l * val m)), [[], []])) ?_ n (0, List.replicate (l.length + m.length) 0) _ _ (by simp only; omega) ⟨rfl, rfl, rfl, rfl, rfl, rfl, by simp, by simp, ?_, by simp [val, val_rep]⟩
  rotate_left
  · intro x hx; rw [List.eq_of_mem_replicate hx]; decide
  intro k' ⟨i, o⟩ hx ih env s ⟨h1, h5, h17, h18, h19, hs, hi, hol, hoL, hv⟩
  simp only at h1 h5 h17 h18 h19 hs hi hol hoL hv hx
  by_cases hp : i = l.length
  · subst hp
    have q1 : ¬ ((l.length : Int) < (l.length : Int)) := by omega
    obtain ⟨s9, e9⟩ := norm_hold n d s (.own 16 1 0 (l.length + m.length) 1) o (.inr (.inr ⟨16, 1, by rw [hol], hs⟩)) hoL (by omega) (by omega) 68
    simp only [den_seq, den_region, den_ret, den_skip, den_label, den_exit, den_block, den_scope, den_condV, condV_bool, ops1_cons, ops1_guarded, guardV_bool, guardV_tup, guardD_0, guardD_s, ops1_nil, seqK_normal, seqK_ret, seqK_exit, blockK_normal, blockK_exit, blockK_ret, loopK_normal, loopK_exit, loopK_ret, finK_normal, finK_ret, opK_some, opA_move, opA_assign, opA_pick, pickA_bool, opA_len, opA_bin, opA_un, opA_ia, opA_load, opA_store, opA_conv, opA_make, opA_append, opA_copy, opA_max, opA_min, opA_slice, opA_call, opA_callq, opA_extract, extA_tup, Option.getD_some, Option.getD_none, setO_some, setO_none, ev_tmp, ev_int, ev_bool, ev_nil, ev_fn, upd_at, Option.map_some, Option.map_none, Option.bind_some, List.map_cons, List.map_nil, List.cons_append, List.nil_append, reduceIte, Nat.reduceEqDiff, Nat.reduceAdd, decide_true, decide_false, Bool.true_eq_false, Bool.false_eq_true, len22, lenN22, k_lss, k_leq, k_gtr, k_geq, k_eql, k_neq, ia22, ld31, conv31_40, conv40_31, h1, h5, h17, h18, h19, q1, e9]
    rw [hv, List.take_length]
    exact finish_R _ _ _ _ _ _ _ (by simp only [upd_at, reduceIte]) rfl
  have q1 : (i : Int) < (l.length : Int) := by omega
  have q2 : (0 : Int) ≤ (i : Int) := by omega
  have q3 : i < l.length := by omega
  have hx1 := getD_lt l hl i
  have f4 := i_add Try.prog 3 (i : Int) 1 (by omega) (by omega)
  by_cases hz : l.getD i 0 = 0
  · have p5 : (((l.getD i 0 : Nat) : Int) == 0) = true := by rw [hz]; rfl
    simp only [den_seq, den_region, den_ret, den_skip, den_label, den_exit, den_block, den_scope, den_condV, condV_bool, ops1_cons, ops1_guarded, guardV_bool, guardV_tup, guardD_0, guardD_s, ops1_nil, seqK_normal, seqK_ret, seqK_exit, blockK_normal, blockK_exit, blockK_ret, loopK_normal, loopK_exit, loopK_ret, finK_normal, finK_ret, opK_some, opA_move, opA_assign, opA_pick, pickA_bool, opA_len, opA_bin, opA_un, opA_ia, opA_load, opA_store, opA_conv, opA_make, opA_append, opA_copy, opA_max, opA_min, opA_slice, opA_call, opA_callq, opA_extract, extA_tup, Option.getD_some, Option.getD_none, setO_some, setO_none, ev_tmp, ev_int, ev_bool, ev_nil, ev_fn, upd_at, Option.map_some, Option.map_none, Option.bind_some, List.map_cons, List.map_nil, List.cons_append, List.nil_append, reduceIte, Nat.reduceEqDiff, Nat.reduceAdd, decide_true, decide_false, Bool.true_eq_false, Bool.false_eq_true, len22, lenN22, k_lss, k_leq, k_gtr, k_geq, k_eql, k_neq, ia22, ld31, conv31_40, conv40_31, h1, h5, h17, h18, h19, q1, q2, q3, Int.toNat_natCast, p5, f4]
    refine ih (i + 1, o) _ _ (by simp only; omega) rfl ⟨?_, ?_, ?_, ?_, ?_, hs, ?_, hol, hoL, mul_skip l m o i hz hv⟩
    · simp only [upd_at, reduceIte, Nat.reduceEqDiff, h1]
    · simp only [upd_at, reduceIte, Nat.reduceEqDiff, h5]
    · simp only [upd_at, reduceIte, Nat.reduceEqDiff, h17]
    · simp only [upd_at, reduceIte, Nat.reduceEqDiff, h18]
    · simp only [upd_at, reduceIte, Nat.reduceEqDiff]; rfl
    · simp only; omega
  have p5 : (((l.getD i 0 : Nat) : Int) == 0) = false := by
    rw [beq_eq_false_iff_ne]; omega
  simp only [den_seq, den_region, den_ret, den_skip, den_label, den_exit, den_block, den_scope, den_condV, condV_bool, ops1_cons, ops1_guarded, guardV_bool, guardV_tup, guardD_0, guardD_s, ops1_nil, seqK_normal, seqK_ret, seqK_exit, blockK_normal, blockK_exit, blockK_ret, loopK_normal, loopK_exit, loopK_ret, finK_normal, finK_ret, opK_some, opA_move, opA_assign, opA_pick, pickA_bool, opA_len, opA_bin, opA_un, opA_ia, opA_load, opA_store, opA_conv, opA_make, opA_append, opA_copy, opA_max, opA_min, opA_slice, opA_call, opA_callq, opA_extract, extA_tup, Option.getD_some, Option.getD_none, setO_some, setO_none, ev_tmp, ev_int, ev_bool, ev_nil, ev_fn, upd_at, Option.map_some, Option.map_none, Option.bind_some, List.map_cons, List.map_nil, List.cons_append, List.nil_append, reduceIte, Nat.reduceEqDiff, Nat.reduceAdd, decide_true, decide_false, Bool.true_eq_false, Bool.false_eq_true, len22, lenN22, k_lss, k_leq, k_gtr, k_geq, k_eql, k_neq, ia22, ld31, conv31_40, conv40_31, h1, h5, h17, h18, h19, q1, q2, q3, Int.toNat_natCast, p5, den_loop]
  have hz0 : o.getD (i + m.length) 0 = 0 := digit_0 o hoL _ (by rw [hv]; exact mul_lt l m hl hm i)
  obtain ⟨x, hxe⟩ : ∃ x, x = l.getD i 0 := ⟨_, rfl⟩
  rw [← hxe] at hx1 hz ⊢
  refine loop_ends (X := Nat × Nat × List Nat) (fun y env s => env 1 = encL b' m ∧ env 5 = .own 16 1 0 (l.length + m.length) 1 ∧ env 17 = encL b l ∧ env 18 = .int .i64 (l.length : Int) ∧ env 19 = .int .i64 (i : Int) ∧ env 6 = .int .i64 (i : Int) ∧ env 7 = .int .u32 (x : Int) ∧ env 26 = encL b' m ∧ env 27 = .int .i64 (m.length : Int) ∧ env 28 = .int .i64 (y.1 : Int) ∧ env 8 = .int .u64 (y.2.1 : Int) ∧ s 16 = ⟨1, .buf (encC y.2.2)⟩ ∧ y.1 ≤ m.length ∧ y.2.1 < 4294967296 ∧ y.2.2.length = l.length + m.length ∧ Limbs y.2.2 ∧ (∀ j, i + y.1 ≤ j → y.2.2.getD j 0 = o.getD j 0) ∧ val y.2.2 + B ^ (i + y.1) * y.2.1 = val o + B ^ i * (x * val (m.take y.1))) (fun y => m.length - y.1) (fun _ => (.tree (encR (val l * val m)), [[], []])) ?_ n (0, 0, o) _ _ (by simp only; omega) ⟨?_, ?_, ?_, ?_, ?_, rfl, rfl, rfl, rfl, rfl, rfl, hs, by simp, by simp, hol, hoL, fun _ _ => rfl, by simp [val]⟩
  rotate_left
  · simp only [upd_at, reduceIte, Nat.reduceEqDiff, h1]
  · simp only [upd_at, reduceIte, Nat.reduceEqDiff, h5]
  · simp only [upd_at, reduceIte, Nat.reduceEqDiff, h17]
  · simp only [upd_at, reduceIte, Nat.reduceEqDiff, h18]
  · simp only [upd_at, reduceIte, Nat.reduceEqDiff, h19]
  clear h1 h5 h17 h18 h19 hs
  intro k2 ⟨k, c, o'⟩ hx' ih' env s ⟨h1, h5, h17, h18, h19, h6, h7, h26, h27, h28, h8, hs, hk, hc, hol', hoL', hsame, hv'⟩
  simp only at h1 h5 h17 h18 h19 h6 h7 h26 h27 h28 h8 hs hk hc hol' hoL' hsame hv' hx'
  have q4 : (k : Int) < (m.length : Int) → (0 : Int) ≤ (i : Int) + (k : Int) := by omega
  by_cases hp' : k = m.length
  · subst hp'
    have r1 : ¬ ((m.length : Int) < (m.length : Int)) := by omega
    have f5 := i_add Try.prog 3 (i : Int) (m.length : Int) (by omega) (by omega)
    have g1 := ia_own s 16 1 _ (l.length + m.length) .i64 ((i : Int) + (m.length : Int)) hs (by omega) (by omega)
    rw [show ((i : Int) + (m.length : Int)).toNat = i + m.length by omega] at g1
    have g2 := st31 s 16 1 _ (i + m.length) (c % 4294967296) hs (by omega)
    simp only [den_seq, den_region, den_ret, den_skip, den_label, den_exit, den_block, den_scope, den_condV, condV_bool, ops1_cons, ops1_guarded, guardV_bool, guardV_tup, guardD_0, guardD_s, ops1_nil, seqK_normal, seqK_ret, seqK_exit, blockK_normal, blockK_exit, blockK_ret, loopK_normal, loopK_exit, loopK_ret, finK_normal, finK_ret, opK_some, opA_move, opA_assign, opA_pick, pickA_bool, opA_len, opA_bin, opA_un, opA_ia, opA_load, opA_store, opA_conv, opA_make, opA_append, opA_copy, opA_max, opA_min, opA_slice, opA_call, opA_callq, opA_extract, extA_tup, Option.getD_some, Option.getD_none, setO_some, setO_none, ev_tmp, ev_int, ev_bool, ev_nil, ev_fn, upd_at, Option.map_some, Option.map_none, Option.bind_some, List.map_cons, List.map_nil, List.cons_append, List.nil_append, reduceIte, Nat.reduceEqDiff, Nat.reduceAdd, decide_true, decide_false, Bool.true_eq_false, Bool.false_eq_true, len22, lenN22, k_lss, k_leq, k_gtr, k_geq, k_eql, k_neq, ia22, ld31, conv31_40, conv40_31, h1, h5, h17, h18, h19, h6, h7, h26, h27, h28, h8, r1, f4, f5, g1, g2]
    refine ih (i + 1, o'.set (i + m.length) (c % 4294967296)) _ _ (by simp only; omega) rfl ⟨?_, ?_, ?_, ?_, ?_, ?_, ?_, ?_, ?_, ?_⟩
    · simp only [upd_at, reduceIte, Nat.reduceEqDiff, h1]
    · simp only [upd_at, reduceIte, Nat.reduceEqDiff, h5]
    · simp only [upd_at, reduceIte, Nat.reduceEqDiff, h17]
    · simp only [upd_at, reduceIte, Nat.reduceEqDiff, h18]
    · simp only [upd_at, reduceIte, Nat.reduceEqDiff]; rfl
    · rw [upd_self]
    · simp only; omega
    · simp only [List.length_set]; exact hol'
    · exact limbs_set _ hoL' _ _ (Nat.mod_lt _ (by decide))
    · exact mul_end l m o o' i c x hxe (by omega) (by rw [hsame _ (Nat.le_refl _)]; exact hz0) hv hv' hc
  · have r1 : (k : Int) < (m.length : Int) := by omega
    have r2 : (0 : Int) ≤ (k : Int) := by omega
    have r3 : k < m.length := by omega
    have hy1 := getD_lt m hm k
    have hw1 := getD_lt o' hoL' (i + k)
    have hst := mul_step l m o o' i k c x (by omega) hv'
    obtain ⟨b1, b2, b3⟩ := mul_big x (m.getD k 0) c (o'.getD (i + k) 0) hx1 hy1 hc hw1
    have f5 := i_add Try.prog 3 (i : Int) (k : Int) (by omega) (by omega)
    have f6 := i_add Try.prog 3 (k : Int) 1 (by omega) (by omega)
    have g1 := ia_own s 16 1 _ (l.length + m.length) .i64 ((i : Int) + (k : Int)) hs (by omega) (by omega)
    rw [show ((i : Int) + (k : Int)).toNat = i + k by omega] at g1
    have g3 := ld_own s 16 1 o' (i + k) hs (by omega)
    have g4 := conv31_40 s (o'.getD (i + k) 0) hw1
    have u1 := u_mul Try.prog 40 x (m.getD k 0)
    rw [Nat.mod_eq_of_lt b1] at u1
    have u2 := u_add Try.prog 40 (x * m.getD k 0) (o'.getD (i + k) 0)
    rw [Nat.mod_eq_of_lt b2] at u2
    have u3 := u_add Try.prog 40 c (x * m.getD k 0 + o'.getD (i + k) 0)
    rw [Nat.mod_eq_of_lt b3] at u3
    generalize c + (x * m.getD k 0 + o'.getD (i + k) 0) = S at *
    have u4 := u_shr Try.prog 40 S .u64 32 (by decide) (by decide)
    rw [show (2 : Nat) ^ (32 : Int).toNat = 4294967296 from rfl] at u4
    have g2 := st31 s 16 1 _ (i + k) (S % 4294967296) hs (by omega)
    simp only [den_seq, den_region, den_ret, den_skip, den_label, den_exit, den_block, den_scope, den_condV, condV_bool, ops1_cons, ops1_guarded, guardV_bool, guardV_tup, guardD_0, guardD_s, ops1_nil, seqK_normal, seqK_ret, seqK_exit, blockK_normal, blockK_exit, blockK_ret, loopK_normal, loopK_exit, loopK_ret, finK_normal, finK_ret, opK_some, opA_move, opA_assign, opA_pick, pickA_bool, opA_len, opA_bin, opA_un, opA_ia, opA_load, opA_store, opA_conv, opA_make, opA_append, opA_copy, opA_max, opA_min, opA_slice, opA_call, opA_callq, opA_extract, extA_tup, Option.getD_some, Option.getD_none, setO_some, setO_none, ev_tmp, ev_int, ev_bool, ev_nil, ev_fn, upd_at, Option.map_some, Option.map_none, Option.bind_some, List.map_cons, List.map_nil, List.cons_append, List.nil_append, reduceIte, Nat.reduceEqDiff, Nat.reduceAdd, decide_true, decide_false, Bool.true_eq_false, Bool.false_eq_true, len22, lenN22, k_lss, k_leq, k_gtr, k_geq, k_eql, k_neq, ia22, ld31, conv31_40, conv40_31, h1, h5, h17, h18, h19, h6, h7, h26, h27, h28, h8, r1, r2, r3, Int.toNat_natCast, hx1, hy1, f5, f6, g1, g2, g3, g4, u1, u2, u3, u4]
    refine ih' (k + 1, S / 4294967296, o'.set (i + k) (S % 4294967296)) _ _ (by simp only; omega) rfl ⟨?_, ?_, ?_, ?_, ?_, ?_, ?_, ?_, ?_, ?_, ?_, ?_, ?_, ?_, ?_, ?_, ?_, ?_⟩
    · simp only [upd_at, reduceIte, Nat.reduceEqDiff, h1]
    · simp only [upd_at, reduceIte, Nat.reduceEqDiff, h5]
    · simp only [upd_at, reduceIte, Nat.reduceEqDiff, h17]
    · simp only [upd_at, reduceIte, Nat.reduceEqDiff, h18]
    · simp only [upd_at, reduceIte, Nat.reduceEqDiff, h19]
    · simp only [upd_at, reduceIte, Nat.reduceEqDiff, h6]
    · simp only [upd_at, reduceIte, Nat.reduceEqDiff, h7]
    · simp only [upd_at, reduceIte, Nat.reduceEqDiff, h26]
    · simp only [upd_at, reduceIte, Nat.reduceEqDiff, h27]
    · simp only [upd_at, reduceIte, Nat.reduceEqDiff]; rfl
    · simp only [upd_at, reduceIte, Nat.reduceEqDiff]
    · rw [upd_self]
    · simp only; omega
    · simp only; omega
    · simp only [List.length_set]; exact hol'
    · exact limbs_set _ hoL' _ _ (Nat.mod_lt _ (by decide))
    · intro j hj
      simp only at hj ⊢
      rw [getD_set_ne _ _ _ _ (by omega)]
      exact hsame j (by omega)
    · exact hst
end Go.Ab
