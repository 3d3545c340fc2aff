/- What the program's Sub computes. Conditions: limbs in range, not too many. -/
import Derived.Test.YtlmffjpfjbhliaaAbL5
namespace Go.Ab
open Go.Proofs
set_option maxRecDepth 100000
set_option linter.unusedSimpArgs false

theorem cmp_call (n d : Nat) (b b' : Bool) (l m : List Nat) (hl : Limbs l) (hm : Limbs m) (hn : l.length < n) (hn' : m.length < n) (hll : l.length ≤ 1000000) (hml : m.length ≤ 1000000) (D : Nat) (s : St) :
    callA cfg0 (evalFn Try.prog cfg0 n (d+3)) D s 11 [encL b l, encL b' m] = some (.int .i64 (cmpZ (val l) (val m)), s) :=
  callA_L2 _ _ _ _ _ _ _ _ _ (cmp_eq n d b b' l m hl hm hn hn' hll hml)
theorem encR_0 : encR 0 = .sl [] 0 .tight := by rw [encR, digs_0]; rfl
theorem cmpZ_lt (x y : Nat) : cmpZ x y < 0 ↔ x < y := by
  unfold cmpZ
  split
  · simp_all
  · split <;> simp_all

theorem borrow (x y c u : Nat) (hx : x < 4294967296) (hy : y < 4294967296) (hc : c ≤ 1) (hu : ((x + (18446744073709551616 - y)) % 18446744073709551616 + (18446744073709551616 - c)) % 18446744073709551616 = u) :
    u % 4294967296 + y + c = x + 4294967296 * (u / 9223372036854775808) := by
  have e1 : 18446744073709551616 - y + y = 18446744073709551616 := by omega
  have e2 : 18446744073709551616 - c + c = 18446744073709551616 := by omega
  generalize 18446744073709551616 - y = y' at *
  generalize 18446744073709551616 - c = c' at *
  by_cases h : y + c ≤ x
  · have : u = x - y - c := by omega
    subst this
    have h2 : (x - y - c) / 9223372036854775808 = 0 := by omega
    rw [h2]; omega
  · have : u = 18446744073709551616 + x - y - c := by omega
    subst this
    have h2 : (18446744073709551616 + x - y - c) / 9223372036854775808 = 1 := by omega
    rw [h2]; omega
theorem fnSub_eq (n d : Nat) (b b' : Bool) (l m : List Nat) (hl : Limbs l) (hm : Limbs m) (hn : l.length + 2 < n) (hn' : m.length + 2 < n) (hll : l.length ≤ 100000) (hml : m.length ≤ 100000) :
    evalFn Try.prog cfg0 n (d+4) 18 [.tree (encL b l), .tree (encL b' m)] = some (.tree (encR (val l - val m)), [[], []]) := by
  rw [evalFn_go _ Try.func18 (by unfold Try.f18; rfl) (by unfold Try.f18; decide) (Nat.le_of_ble_eq_true (by unfold Try.f18; rfl)) (by kernel_rfl)]
  have c0 := cmp_call n d b b' l m hl hm (by omega) (by omega) (by omega) (by omega)
  by_cases hlt : val l < val m
  · have z1 : cmpZ (val l) (val m) < 0 := (cmpZ_lt _ _).mpr hlt
    simp only [den_seq, den_region, den_ret, den_skip, den_label, den_exit, den_block, den_scope, den_condV, condV_bool, ops1_cons, ops1_guarded, guardV_bool, guardV_tup, guardD_0, guardD_s, ops1_nil, seqK_normal, seqK_ret, seqK_exit, blockK_normal, blockK_exit, blockK_ret, loopK_normal, loopK_exit, loopK_ret, finK_normal, finK_ret, opK_some, opA_move, opA_assign, opA_pick, pickA_bool, opA_len, opA_bin, opA_un, opA_ia, opA_load, opA_store, opA_conv, opA_make, opA_append, opA_copy, opA_max, opA_min, opA_slice, opA_call, opA_callq, opA_extract, extA_tup, Option.getD_some, Option.getD_none, setO_some, setO_none, ev_tmp, ev_int, ev_bool, ev_nil, ev_fn, upd_at, Option.map_some, Option.map_none, Option.bind_some, List.map_cons, List.map_nil, List.cons_append, List.nil_append, reduceIte, Nat.reduceEqDiff, Nat.reduceAdd, decide_true, decide_false, Bool.true_eq_false, Bool.false_eq_true, env0, List.getElem?_cons_zero, List.getElem?_cons_succ, len22, lenN22, k_lss, k_leq, k_gtr, k_geq, k_eql, k_neq, ia22, ld31, conv31_40, conv40_31, c0, z1]
    rw [Nat.sub_eq_zero_of_le (by omega), encR_0]
    exact finish_tree _ _ _ _ _ _ (.sl [] 0 .tight) _ _ (by simp only [upd_at, reduceIte]) rfl rfl
  have z1 : ¬ cmpZ (val l) (val m) < 0 := fun h => hlt ((cmpZ_lt _ _).mp h)
  simp only [den_seq, den_region, den_ret, den_skip, den_label, den_exit, den_block, den_scope, den_condV, condV_bool, ops1_cons, ops1_guarded, guardV_bool, guardV_tup, guardD_0, guardD_s, ops1_nil, seqK_normal, seqK_ret, seqK_exit, blockK_normal, blockK_exit, blockK_ret, loopK_normal, loopK_exit, loopK_ret, finK_normal, finK_ret, opK_some, opA_move, opA_assign, opA_pick, pickA_bool, opA_len, opA_bin, opA_un, opA_ia, opA_load, opA_store, opA_conv, opA_make, opA_append, opA_copy, opA_max, opA_min, opA_slice, opA_call, opA_callq, opA_extract, extA_tup, Option.getD_some, Option.getD_none, setO_some, setO_none, ev_tmp, ev_int, ev_bool, ev_nil, ev_fn, upd_at, Option.map_some, Option.map_none, Option.bind_some, List.map_cons, List.map_nil, List.cons_append, List.nil_append, reduceIte, Nat.reduceEqDiff, Nat.reduceAdd, decide_true, decide_false, Bool.true_eq_false, Bool.false_eq_true, env0, List.getElem?_cons_zero, List.getElem?_cons_succ, len22, lenN22, k_lss, k_leq, k_gtr, k_geq, k_eql, k_neq, ia22, ld31, conv31_40, conv40_31, st0_2, max_eq, c0, z1, den_loop]
  generalize hN : max l.length m.length = N
  refine loop_ends (X := Nat × Nat × List Nat) (fun x env s => env 0 = encL b l ∧ env 1 = encL b' m ∧ env 17 = .int .i64 (N : Int) ∧ env 18 = .int .i64 (x.1 : Int) ∧ env 6 = .int .u64 (x.2.1 : Int) ∧ Hold s (env 5) x.2.2 ∧ x.1 ≤ N ∧ x.2.1 ≤ 1 ∧ x.2.2.length = x.1 ∧ Limbs x.2.2 ∧ val x.2.2 + val (m.take x.1) = val (l.take x.1) + B ^ x.1 * x.2.1) (fun x => N - x.1) (fun _ => (.tree (encR (val l - val m)), [[], []])) ?_ n (0, 0, []) _ _ (by simp only; omega) ⟨rfl, rfl, rfl, rfl, rfl, hold_nil _, by simp, by simp, rfl, limbs_nil, by simp [val]⟩
  intro k ⟨i, c, o⟩ hx ih env s ⟨h0, h1, h17, h18, h6, h5, hi, hc, hol, hoL, hv⟩
  simp only at h0 h1 h17 h18 h6 h5 hi hc hol hoL hv hx
  by_cases hp : i = N
  · subst hp
    have q1 : ¬ ((i : Int) < (i : Int)) := by omega
    obtain ⟨s9, e9⟩ := norm_hold n (d + 2) s (env 5) o h5 hoL (by omega) (by omega) 39
    simp only [den_seq, den_region, den_ret, den_skip, den_label, den_exit, den_block, den_scope, den_condV, condV_bool, ops1_cons, ops1_guarded, guardV_bool, guardV_tup, guardD_0, guardD_s, ops1_nil, seqK_normal, seqK_ret, seqK_exit, blockK_normal, blockK_exit, blockK_ret, loopK_normal, loopK_exit, loopK_ret, finK_normal, finK_ret, opK_some, opA_move, opA_assign, opA_pick, pickA_bool, opA_len, opA_bin, opA_un, opA_ia, opA_load, opA_store, opA_conv, opA_make, opA_append, opA_copy, opA_max, opA_min, opA_slice, opA_call, opA_callq, opA_extract, extA_tup, Option.getD_some, Option.getD_none, setO_some, setO_none, ev_tmp, ev_int, ev_bool, ev_nil, ev_fn, upd_at, Option.map_some, Option.map_none, Option.bind_some, List.map_cons, List.map_nil, List.cons_append, List.nil_append, reduceIte, Nat.reduceEqDiff, Nat.reduceAdd, decide_true, decide_false, Bool.true_eq_false, Bool.false_eq_true, len22, lenN22, k_lss, k_leq, k_gtr, k_geq, k_eql, k_neq, ia22, ld31, conv31_40, conv40_31, h0, h1, h17, h18, q1, e9]
    rw [sub_end l m o i c (by omega) (by omega) hoL hol (by omega) hv]
    exact finish_R _ _ _ _ _ _ _ (by simp only [upd_at, reduceIte]) rfl
  · have q1 : (i : Int) < (N : Int) := by omega
    have c1 := at_call n (d + 2) b l hl i
    have c2 := at_call n (d + 2) b' m hm i
    have hx1 := getD_lt l hl i
    have hx2 := getD_lt m hm i
    have hst := sub_step l m o i c
    generalize l.getD i 0 = x at *
    generalize m.getD i 0 = y at *
    have e1 := u_sub Try.prog 40 x y (by omega)
    have e2 := u_sub Try.prog 40 ((x + (18446744073709551616 - y)) % 18446744073709551616) c (by omega)
    obtain ⟨u, hu⟩ : ∃ u, ((x + (18446744073709551616 - y)) % 18446744073709551616 + (18446744073709551616 - c)) % 18446744073709551616 = u := ⟨_, rfl⟩
    rw [hu] at e2
    have e3 := u_shr Try.prog 40 u .u64 63 (by decide) (by decide)
    rw [show (2 : Nat) ^ (63 : Int).toNat = 9223372036854775808 from rfl] at e3
    have e4 := i_add Try.prog 3 (i : Int) 1 (by omega) (by omega)
    have hlim : u % 4294967296 < B := Nat.mod_lt _ (by decide)
    obtain ⟨v', s', ea, hh⟩ := append22 34 s (env 5) o [u % 4294967296] true h5 (by simp only [List.length_cons, List.length_nil]; omega)
    rw [show encL true [u % 4294967296] = .sl [.int .u32 ((u % 4294967296 : Nat) : Int)] 1 .tight from rfl] at ea
    simp only [den_seq, den_region, den_ret, den_skip, den_label, den_exit, den_block, den_scope, den_condV, condV_bool, ops1_cons, ops1_guarded, guardV_bool, guardV_tup, guardD_0, guardD_s, ops1_nil, seqK_normal, seqK_ret, seqK_exit, blockK_normal, blockK_exit, blockK_ret, loopK_normal, loopK_exit, loopK_ret, finK_normal, finK_ret, opK_some, opA_move, opA_assign, opA_pick, pickA_bool, opA_len, opA_bin, opA_un, opA_ia, opA_load, opA_store, opA_conv, opA_make, opA_append, opA_copy, opA_max, opA_min, opA_slice, opA_call, opA_callq, opA_extract, extA_tup, Option.getD_some, Option.getD_none, setO_some, setO_none, ev_tmp, ev_int, ev_bool, ev_nil, ev_fn, upd_at, Option.map_some, Option.map_none, Option.bind_some, List.map_cons, List.map_nil, List.cons_append, List.nil_append, reduceIte, Nat.reduceEqDiff, Nat.reduceAdd, decide_true, decide_false, Bool.true_eq_false, Bool.false_eq_true, len22, lenN22, k_lss, k_leq, k_gtr, k_geq, k_eql, k_neq, ia22, ld31, conv31_40, conv40_31, h0, h1, h17, h18, h6, q1, c1, c2, e1, e2, e3, e4, opA_one, one22_int, ea]
    refine ih (i + 1, u / 9223372036854775808, o ++ [u % 4294967296]) _ _ (by simp only; omega) rfl ⟨?_, ?_, ?_, ?_, ?_, ?_, ?_, ?_, ?_, ?_, ?_⟩
    · simp only [upd_at, reduceIte, Nat.reduceEqDiff, h0]
    · simp only [upd_at, reduceIte, Nat.reduceEqDiff, h1]
    · simp only [upd_at, reduceIte, Nat.reduceEqDiff, h17]
    · simp only [upd_at, reduceIte, Nat.reduceEqDiff]; rfl
    · simp only [upd_at, reduceIte, Nat.reduceEqDiff]
    · simp only [upd_at, reduceIte, Nat.reduceEqDiff]; exact hh
    · simp only; omega
    · simp only; omega
    · simp only [List.length_append, List.length_cons, List.length_nil]; omega
    · exact hoL.app (limbs_one hlim)
    · exact hst _ _ hol hv (borrow x y c u hx1 hx2 hc hu)
end Go.Ab
