/- What the program's Shl, Shr compute. Conditions: limbs in range, not too many. -/
import Derived.Test.YtlmffjpfjbhliaaAbL7
import Derived.Test.YtlmffjpfjbhliaaAbM5
namespace Go.Ab
open Go.Proofs
set_option maxRecDepth 100000
set_option linter.unusedSimpArgs false

theorem i_quo (P : Program) (t : TypeId) (a b : Nat) (hb : 0 < b) (ha : a ≤ 9223372036854775807) : binA P .quo t (.int .i64 (a : Int)) (.int .i64 (b : Int)) = some (.int .i64 ((a / b : Nat) : Int)) := by
  have h1 : (a : Int).tdiv (b : Int) = ((a / b : Nat) : Int) := by rw [Int.tdiv_eq_ediv_of_nonneg (by omega)]; exact (Int.natCast_ediv a b).symm
  have h2 : a / b ≤ a := Nat.div_le_self _ _
  simp only [binA, intA, if_true]
  rw [if_neg (by omega), h1]
  generalize a / b = q at *
  rw [i64_wrap _ (by omega) (by omega)]
theorem i_rem (P : Program) (t : TypeId) (a b : Nat) (hb : 0 < b) : binA P .rem t (.int .i64 (a : Int)) (.int .i64 (b : Int)) = some (.int .i64 ((a % b : Nat) : Int)) := by
  simp only [binA, intA, if_true]
  rw [if_neg (by omega), Int.tmod_eq_emod_of_nonneg (by omega)]
  rfl
theorem make22c (d : Nat) (s : St) (z c : Int) (h : 0 ≤ z) (hc : z ≤ c) (h' : c ≤ 2147483648) : makeA Try.prog 22 d s (.int .i64 z) (.int .i64 c) = some (.own d ((s d).t + 1) 0 z.toNat 1, upd s d ⟨(s d).t + 1, .buf (encC (List.replicate z.toNat 0))⟩) := by
  simp only [makeA, tk22, esz31, zero31, by31, Option.bind_some, rep_zero]
  rw [if_pos ⟨h, hc, h', by decide, rfl⟩]
theorem st31 (s : St) (p t : Nat) (o : List Nat) (i x : Nat) (h : s p = ⟨t, .buf (encC o)⟩) (hi : i < o.length) : storeA Try.prog 31 s (.ptr p t i) (.int .u32 (x : Int)) = some (upd s p ⟨t, .buf (encC (o.set i x))⟩) := by
  simp [storeA, settle, h, cellOk, esz31, encC_len, hi, encC_set]
theorem ia_own (s : St) (p t : Nat) (o : List Nat) (len : Nat) (k : IntKind) (z : Int) (h : s p = ⟨t, .buf (encC o)⟩) (h0 : 0 ≤ z) (h1 : z < len) : indexAddrA Try.prog 22 s (.own p t 0 len 1) (.int k z) = some (.ptr p t z.toNat) := by
  have : live s p t = true := by simp [live, cellsAt, h]
  simp only [indexAddrA, tk22, esz31, Option.bind_some, this, h0, h1, and_self, if_true, Nat.mul_one, Nat.zero_add]
theorem ld_own (s : St) (p t : Nat) (o : List Nat) (i : Nat) (h : s p = ⟨t, .buf (encC o)⟩) (hi : i < o.length) : loadA Try.prog 31 s (.ptr p t i) = some (.int .u32 ((o.getD i 0 : Nat) : Int)) := by
  simp only [loadA, cellsAt, h, if_true, Option.bind_some, partA, sh31]
  exact encC_get o i hi
theorem upd_self {α : Type} (f : Nat → α) (i : Nat) (v : α) : upd f i v i = v := by simp [upd]
/-- How far it goes up. -/
def shn (z : Int) : Nat := (if 4096 < z then 4096 else z).toNat

theorem fnShl_eq (n d : Nat) (b : Bool) (l : List Nat) (z : Int) (hl : Limbs l) (hn : l.length + 200 < n) (hll : l.length ≤ 100000) :
    evalFn Try.prog cfg0 n (d+2) 20 [.tree (encL b l), .tree (.int .i64 z)] = some (.tree (encR (val l * 2 ^ shn z)), [[], []]) := by
  rw [evalFn_go _ Try.func20 (by unfold Try.f20; rfl) (by unfold Try.f20; decide) (Nat.le_of_ble_eq_true (by unfold Try.f20; rfl)) (by kernel_rfl)]
  have a1 : foldA min2A (.int .i64 z) [.int .i64 4096] = some (.int .i64 (if 4096 < z then 4096 else z)) := by
    simp only [foldA, min2A, Option.bind_some]
  have a2 : foldA max2A (.int .i64 0) [.int .i64 (if 4096 < z then 4096 else z)] = some (.int .i64 ((shn z : Nat) : Int)) := by
    simp only [foldA, max2A, Option.bind_some, shn]
    congr 2
    split <;> omega
  have hk : shn z ≤ 4096 := by simp only [shn]; split <;> omega
  generalize shn z = k at *
  have e1 := i_quo Try.prog 3 k 32 (by decide) (by omega)
  have e2 := i_rem Try.prog 3 k 32 (by decide)
  rw [show ((32 : Nat) : Int) = 32 from rfl] at e1 e2
  have hkw : k = 32 * (k / 32) + k % 32 := by omega
  have hw : k / 32 ≤ 128 := by omega
  have hr : k % 32 < 32 := by omega
  generalize k / 32 = w at *
  generalize k % 32 = r at *
  have e3 := i_add Try.prog 3 (w : Int) (l.length : Int) (by omega) (by omega)
  have e4 := i_add Try.prog 3 ((w : Int) + (l.length : Int)) 1 (by omega) (by omega)
  have e5 := make22c 20 dead (w : Int) ((w : Int) + (l.length : Int) + 1) (by omega) (by omega) (by omega)
  rw [Int.toNat_natCast] at e5
  simp only [den_seq, den_region, den_ret, den_skip, den_label, den_exit, den_block, den_scope, den_condV, condV_bool, ops1_cons, ops1_guarded, guardV_bool, guardV_tup, guardD_0, guardD_s, ops1_nil, seqK_normal, seqK_ret, seqK_exit, blockK_normal, blockK_exit, blockK_ret, loopK_normal, loopK_exit, loopK_ret, finK_normal, finK_ret, opK_some, opA_move, opA_assign, opA_pick, pickA_bool, opA_len, opA_bin, opA_un, opA_ia, opA_load, opA_store, opA_conv, opA_make, opA_append, opA_copy, opA_max, opA_min, opA_slice, opA_call, opA_callq, opA_extract, extA_tup, Option.getD_some, Option.getD_none, setO_some, setO_none, ev_tmp, ev_int, ev_bool, ev_nil, ev_fn, upd_at, Option.map_some, Option.map_none, Option.bind_some, List.map_cons, List.map_nil, List.cons_append, List.nil_append, reduceIte, Nat.reduceEqDiff, Nat.reduceAdd, decide_true, decide_false, Bool.true_eq_false, Bool.false_eq_true, env0, List.getElem?_cons_zero, List.getElem?_cons_succ, len22, lenN22, k_lss, k_leq, k_gtr, k_geq, k_eql, k_neq, ia22, ld31, conv31_40, conv40_31, st0_2, a1, a2, e1, e3, e4, e5, den_loop]
  refine loop_ends (X := Nat × Nat × List Nat) (fun x env s => env 1 = .int .i64 (k : Int) ∧ env 21 = encL b l ∧ env 22 = .int .i64 (l.length : Int) ∧ env 23 = .int .i64 (x.1 : Int) ∧ env 6 = .int .u64 (x.2.1 : Int) ∧ Hold s (env 5) x.2.2 ∧ x.1 ≤ l.length ∧ x.2.1 < 2 ^ r ∧ x.2.2.length = w + x.1 ∧ Limbs x.2.2 ∧ val x.2.2 + B ^ (w + x.1) * x.2.1 = B ^ w * (2 ^ r * val (l.take x.1))) (fun x => l.length - x.1) (fun _ => (.tree (encR (val l * 2 ^ k)), [[], []])) ?_ n (0, 0, List.replicate w 0) _ _ (by simp only; omega) ⟨rfl, rfl, rfl, rfl, rfl, ?_, by simp, Nat.two_pow_pos r, by simp, ?_, by simp [val, val_rep]⟩
  rotate_left
  · refine .inr (.inr ⟨20, 1, ?_, ?_⟩)
    · simp only [upd_at, reduceIte, Nat.reduceEqDiff, List.length_replicate]; rfl
    · simp only [upd_at, reduceIte]; rfl
  · intro x hx; rw [List.eq_of_mem_replicate hx]; decide
  intro k' ⟨i, c, o⟩ hx ih env s ⟨h1, h21, h22, h23, h6, h5, hi, hc, hol, hoL, hv⟩
  simp only at h1 h21 h22 h23 h6 h5 hi hc hol hoL hv hx
  have h31 : 2 ^ r ≤ 2 ^ 31 := Nat.pow_le_pow_right (by decide) (by omega)
  rw [show (2 : Nat) ^ 31 = 2147483648 from rfl] at h31
  by_cases hp : i = l.length
  · subst hp
    have q1 : ¬ ((l.length : Int) < (l.length : Int)) := by omega
    obtain ⟨v', s', ea, hh⟩ := append22 46 s (env 5) o [c % 4294967296] true h5 (by simp only [List.length_cons, List.length_nil]; omega)
    rw [show encL true [c % 4294967296] = .sl [.int .u32 ((c % 4294967296 : Nat) : Int)] 1 .tight from rfl] at ea
    have hlim : Limbs (o ++ [c % 4294967296]) := hoL.app (limbs_one (Nat.mod_lt _ (by decide)))
    obtain ⟨s9, e9⟩ := norm_hold n d s' v' (o ++ [c % 4294967296]) hh hlim (by simp; omega) (by simp; omega) 47
    simp only [den_seq, den_region, den_ret, den_skip, den_label, den_exit, den_block, den_scope, den_condV, condV_bool, ops1_cons, ops1_guarded, guardV_bool, guardV_tup, guardD_0, guardD_s, ops1_nil, seqK_normal, seqK_ret, seqK_exit, blockK_normal, blockK_exit, blockK_ret, loopK_normal, loopK_exit, loopK_ret, finK_normal, finK_ret, opK_some, opA_move, opA_assign, opA_pick, pickA_bool, opA_len, opA_bin, opA_un, opA_ia, opA_load, opA_store, opA_conv, opA_make, opA_append, opA_copy, opA_max, opA_min, opA_slice, opA_call, opA_callq, opA_extract, extA_tup, Option.getD_some, Option.getD_none, setO_some, setO_none, ev_tmp, ev_int, ev_bool, ev_nil, ev_fn, upd_at, Option.map_some, Option.map_none, Option.bind_some, List.map_cons, List.map_nil, List.cons_append, List.nil_append, reduceIte, Nat.reduceEqDiff, Nat.reduceAdd, decide_true, decide_false, Bool.true_eq_false, Bool.false_eq_true, len22, lenN22, k_lss, k_leq, k_gtr, k_geq, k_eql, k_neq, ia22, ld31, conv31_40, conv40_31, h1, h21, h22, h23, h6, q1, opA_one, one22_int, ea, e9]
    rw [shl_end l o k r w c hkw hol (by omega) hv]
    exact finish_R _ _ _ _ _ _ _ (by simp only [upd_at, reduceIte]) rfl
  · have q1 : (i : Int) < (l.length : Int) := by omega
    have q2 : (0 : Int) ≤ (i : Int) := by omega
    have q3 : i < l.length := by omega
    have hx1 := getD_lt l hl i
    have hst := shl_step l o w r i c hol hv
    obtain ⟨hS, hC⟩ := shl_lt (l.getD i 0) c r hx1 hr hc
    have hor := shl_or (l.getD i 0) c r hc
    have f1 := u_shl Try.prog 40 (l.getD i 0) .i64 (r : Int) (by omega) (by omega)
    rw [Int.toNat_natCast, Nat.mod_eq_of_lt (by omega)] at f1
    have f2 := u_or Try.prog 40 c (l.getD i 0 * 2 ^ r) (by omega) (by omega)
    rw [hor] at f2
    generalize hgS : c + l.getD i 0 * 2 ^ r = S at *
    have f3 := u_shr Try.prog 40 S .u64 32 (by decide) (by decide)
    rw [show (2 : Nat) ^ (32 : Int).toNat = 4294967296 from rfl] at f3
    have f4 := i_add Try.prog 3 (i : Int) 1 (by omega) (by omega)
    obtain ⟨v', s', ea, hh⟩ := append22 38 s (env 5) o [S % 4294967296] true h5 (by simp only [List.length_cons, List.length_nil]; omega)
    rw [show encL true [S % 4294967296] = .sl [.int .u32 ((S % 4294967296 : Nat) : Int)] 1 .tight from rfl] at ea
    simp only [den_seq, den_region, den_ret, den_skip, den_label, den_exit, den_block, den_scope, den_condV, condV_bool, ops1_cons, ops1_guarded, guardV_bool, guardV_tup, guardD_0, guardD_s, ops1_nil, seqK_normal, seqK_ret, seqK_exit, blockK_normal, blockK_exit, blockK_ret, loopK_normal, loopK_exit, loopK_ret, finK_normal, finK_ret, opK_some, opA_move, opA_assign, opA_pick, pickA_bool, opA_len, opA_bin, opA_un, opA_ia, opA_load, opA_store, opA_conv, opA_make, opA_append, opA_copy, opA_max, opA_min, opA_slice, opA_call, opA_callq, opA_extract, extA_tup, Option.getD_some, Option.getD_none, setO_some, setO_none, ev_tmp, ev_int, ev_bool, ev_nil, ev_fn, upd_at, Option.map_some, Option.map_none, Option.bind_some, List.map_cons, List.map_nil, List.cons_append, List.nil_append, reduceIte, Nat.reduceEqDiff, Nat.reduceAdd, decide_true, decide_false, Bool.true_eq_false, Bool.false_eq_true, len22, lenN22, k_lss, k_leq, k_gtr, k_geq, k_eql, k_neq, ia22, ld31, conv31_40, conv40_31, h1, h21, h22, h23, h6, q1, q2, q3, Int.toNat_natCast, hx1, e2, f1, f2, f3, f4, opA_one, one22_int, ea]
    refine ih (i + 1, S / 4294967296, o ++ [S % 4294967296]) _ _ (by simp only; omega) rfl ⟨?_, ?_, ?_, ?_, ?_, ?_, ?_, ?_, ?_, ?_, ?_⟩
    · simp only [upd_at, reduceIte, Nat.reduceEqDiff, h1]
    · simp only [upd_at, reduceIte, Nat.reduceEqDiff, h21]
    · simp only [upd_at, reduceIte, Nat.reduceEqDiff, h22]
    · simp only [upd_at, reduceIte, Nat.reduceEqDiff]; rfl
    · simp only [upd_at, reduceIte, Nat.reduceEqDiff]
    · simp only [upd_at, reduceIte, Nat.reduceEqDiff]; exact hh
    · simp only; omega
    · exact hC
    · simp only [List.length_append, List.length_cons, List.length_nil]; omega
    · exact hoL.app (limbs_one (Nat.mod_lt _ (by decide)))
    · exact hst
theorem slice22 (s : St) (b : Bool) (l : List Nat) (w : Nat) (h : w < l.length) : ∃ b', sliceA Try.prog 22 s (encL b l) (some (.int .i64 (w : Int))) none none = some (encL b' (l.drop w)) := by
  have hx : (encC l).length = l.length * 1 := by rw [encC_len]; omega
  simp only [sliceA, tk22, encL, esz31, Option.isSome_none, Bool.false_eq_true, false_and, if_false, boundA, Option.bind_some, hx, if_true, Int.toNat_natCast]
  rw [if_pos (by omega)]
  simp only [Option.bind_some]
  have ht : (encC l).take (l.length * 1) = encC l := List.take_of_length_le (by rw [encC_len]; omega)
  rw [ht, Nat.mul_one, encC_drop, List.length_drop]
  cases b
  · exact ⟨false, by simp [gr]⟩
  · exact ⟨true, by simp [gr]⟩
theorem fnShr_eq (n d : Nat) (b : Bool) (l : List Nat) (z : Int) (hl : Limbs l) (hn : l.length + 2 < n) (hll : l.length ≤ 100000) (hz : z ≤ 9223372036854775807) :
    evalFn Try.prog cfg0 n (d+2) 21 [.tree (encL b l), .tree (.int .i64 z)] = some (.tree (encR (val l / 2 ^ z.toNat)), [[], []]) := by
  rw [evalFn_go _ Try.func21 (by unfold Try.f21; rfl) (by unfold Try.f21; decide) (Nat.le_of_ble_eq_true (by unfold Try.f21; rfl)) (by kernel_rfl)]
  have a2 : foldA max2A (.int .i64 z) [.int .i64 0] = some (.int .i64 ((z.toNat : Nat) : Int)) := by
    simp only [foldA, max2A, Option.bind_some]
    congr 2
    split <;> omega
  have hk : z.toNat ≤ 9223372036854775807 := by omega
  generalize z.toNat = k at *
  have e1 := i_quo Try.prog 3 k 32 (by decide) hk
  have e2 := i_rem Try.prog 3 k 32 (by decide)
  rw [show ((32 : Nat) : Int) = 32 from rfl] at e1 e2
  have hend := shr_end l hl k
  have hnone := shr_none l hl k
  have hr : k % 32 < 32 := by omega
  generalize k / 32 = w at *
  generalize k % 32 = r at *
  by_cases hw : l.length ≤ w
  · have q1 : (w : Int) ≥ (l.length : Int) := by omega
    simp only [den_seq, den_region, den_ret, den_skip, den_label, den_exit, den_block, den_scope, den_condV, condV_bool, ops1_cons, ops1_guarded, guardV_bool, guardV_tup, guardD_0, guardD_s, ops1_nil, seqK_normal, seqK_ret, seqK_exit, blockK_normal, blockK_exit, blockK_ret, loopK_normal, loopK_exit, loopK_ret, finK_normal, finK_ret, opK_some, opA_move, opA_assign, opA_pick, pickA_bool, opA_len, opA_bin, opA_un, opA_ia, opA_load, opA_store, opA_conv, opA_make, opA_append, opA_copy, opA_max, opA_min, opA_slice, opA_call, opA_callq, opA_extract, extA_tup, Option.getD_some, Option.getD_none, setO_some, setO_none, ev_tmp, ev_int, ev_bool, ev_nil, ev_fn, upd_at, Option.map_some, Option.map_none, Option.bind_some, List.map_cons, List.map_nil, List.cons_append, List.nil_append, reduceIte, Nat.reduceEqDiff, Nat.reduceAdd, decide_true, decide_false, Bool.true_eq_false, Bool.false_eq_true, env0, List.getElem?_cons_zero, List.getElem?_cons_succ, len22, lenN22, k_lss, k_leq, k_gtr, k_geq, k_eql, k_neq, ia22, ld31, conv31_40, conv40_31, a2, e1, q1]
    rw [hnone hw, encR_0]
    exact finish_tree _ _ _ _ _ _ (.sl [] 0 .tight) _ _ (by simp only [upd_at, reduceIte]) rfl rfl
  have q1 : ¬ (w : Int) ≥ (l.length : Int) := by omega
  obtain ⟨b', e3⟩ := slice22 dead b l w (by omega)
  have hL := hl.drop w
  have hLl : (l.drop w).length ≤ l.length := by rw [List.length_drop]; omega
  generalize l.drop w = m at *
  have e5 := make22 20 dead (m.length : Int) (by omega) (by omega)
  rw [Int.toNat_natCast] at e5
  have e6 : (dead 20).t + 1 = 1 := rfl
  have hlo : ∀ s, lenA Try.prog 22 s (encL b' m) = some (.int .i64 (m.length : Int)) := fun s => len22 s b' m
  simp only [den_seq, den_region, den_ret, den_skip, den_label, den_exit, den_block, den_scope, den_condV, condV_bool, ops1_cons, ops1_guarded, guardV_bool, guardV_tup, guardD_0, guardD_s, ops1_nil, seqK_normal, seqK_ret, seqK_exit, blockK_normal, blockK_exit, blockK_ret, loopK_normal, loopK_exit, loopK_ret, finK_normal, finK_ret, opK_some, opA_move, opA_assign, opA_pick, pickA_bool, opA_len, opA_bin, opA_un, opA_ia, opA_load, opA_store, opA_conv, opA_make, opA_append, opA_copy, opA_max, opA_min, opA_slice, opA_call, opA_callq, opA_extract, extA_tup, Option.getD_some, Option.getD_none, setO_some, setO_none, ev_tmp, ev_int, ev_bool, ev_nil, ev_fn, upd_at, Option.map_some, Option.map_none, Option.bind_some, List.map_cons, List.map_nil, List.cons_append, List.nil_append, reduceIte, Nat.reduceEqDiff, Nat.reduceAdd, decide_true, decide_false, Bool.true_eq_false, Bool.false_eq_true, env0, List.getElem?_cons_zero, List.getElem?_cons_succ, len22, lenN22, k_lss, k_leq, k_gtr, k_geq, k_eql, k_neq, ia22, ld31, conv31_40, conv40_31, st0_2, a2, e1, q1, e3, e5, e6, den_loop]
  refine loop_ends (X := Nat) (fun i env s => env 1 = .int .i64 (k : Int) ∧ env 0 = encL b' m ∧ env 5 = .own 20 1 0 m.length 1 ∧ env 22 = .int .i64 (m.length : Int) ∧ env 23 = .int .i64 (i : Int) ∧ s 20 = ⟨1, .buf (encC ((shrL r m).take i ++ List.replicate ((shrL r m).length - i) 0))⟩ ∧ i ≤ m.length) (fun i => m.length - i) (fun _ => (.tree (encR (val l / 2 ^ k)), [[], []])) ?_ n 0 _ _ (by omega) ⟨rfl, rfl, rfl, rfl, rfl, ?_, by simp⟩
  rotate_left
  · simp only [upd_at, reduceIte, List.take_zero, List.nil_append, shrL_len, Nat.sub_zero]
  intro k' i hx ih env s ⟨h1, h0, h5, h22, h23, hs, hi⟩
  have hsl := shrL_len r m
  by_cases hp : i = m.length
  · subst hp
    have q1 : ¬ ((m.length : Int) < (m.length : Int)) := by omega
    rw [hsl, Nat.sub_self, List.replicate_zero, List.append_nil, List.take_of_length_le (by omega)] at hs
    obtain ⟨s9, e9⟩ := norm_hold n d s (.own 20 1 0 m.length 1) (shrL r m) (.inr (.inr ⟨20, 1, by rw [hsl], hs⟩)) (shrL_limbs r m) (by omega) (by omega) 44
    simp only [den_seq, den_region, den_ret, den_skip, den_label, den_exit, den_block, den_scope, den_condV, condV_bool, ops1_cons, ops1_guarded, guardV_bool, guardV_tup, guardD_0, guardD_s, ops1_nil, seqK_normal, seqK_ret, seqK_exit, blockK_normal, blockK_exit, blockK_ret, loopK_normal, loopK_exit, loopK_ret, finK_normal, finK_ret, opK_some, opA_move, opA_assign, opA_pick, pickA_bool, opA_len, opA_bin, opA_un, opA_ia, opA_load, opA_store, opA_conv, opA_make, opA_append, opA_copy, opA_max, opA_min, opA_slice, opA_call, opA_callq, opA_extract, extA_tup, Option.getD_some, Option.getD_none, setO_some, setO_none, ev_tmp, ev_int, ev_bool, ev_nil, ev_fn, upd_at, Option.map_some, Option.map_none, Option.bind_some, List.map_cons, List.map_nil, List.cons_append, List.nil_append, reduceIte, Nat.reduceEqDiff, Nat.reduceAdd, decide_true, decide_false, Bool.true_eq_false, Bool.false_eq_true, len22, lenN22, k_lss, k_leq, k_gtr, k_geq, k_eql, k_neq, ia22, ld31, conv31_40, conv40_31, h1, h0, h5, h22, h23, q1, e9]
    rw [hend]
    exact finish_R _ _ _ _ _ _ _ (by simp only [upd_at, reduceIte]) rfl
  · have q1 : (i : Int) < (m.length : Int) := by omega
    have q2 : (0 : Int) ≤ (i : Int) := by omega
    have hx1 := getD_lt m hL i
    have hx2 := getD_lt m hL (i + 1)
    have hg := shrL_get r m i (by omega)
    have hst := set_next (shrL r m) i (by omega) _ rfl
    rw [hg] at hst
    have c1 := at_call n d b' m hL i
    have c2 := at_call n d b' m hL (i + 1)
    have f4 := i_add Try.prog 3 (i : Int) 1 (by omega) (by omega)
    rw [show ((i + 1 : Nat) : Int) = (i : Int) + 1 by omega] at c2
    have f1 := u_shl Try.prog 40 (m.getD (i + 1) 0) .u64 32 (by decide) (by decide)
    rw [show (2 : Nat) ^ (32 : Int).toNat = 4294967296 from rfl, Nat.mod_eq_of_lt (by omega)] at f1
    have f2 := u_or Try.prog 40 (m.getD i 0) (m.getD (i + 1) 0 * 4294967296) (by omega) (by omega)
    rw [show (4294967296 : Nat) = 2 ^ 32 from rfl, shl_or _ _ 32 (by omega), show (2 : Nat) ^ 32 = 4294967296 from rfl, Nat.mul_comm] at f2
    rw [Nat.mul_comm] at f1
    have f3 := u_shr Try.prog 40 (m.getD i 0 + 4294967296 * m.getD (i + 1) 0) .i64 (r : Int) (by omega) (by omega)
    rw [Int.toNat_natCast] at f3
    have g1 := ia_own s 20 1 _ m.length .i64 (i : Int) hs q2 q1
    rw [Int.toNat_natCast] at g1
    have g2 := st31 s 20 1 _ i ((m.getD i 0 + B * m.getD (i + 1) 0) / 2 ^ r % B) hs (by rw [List.length_append, List.length_take, List.length_replicate]; omega)
    rw [hst] at g2
    simp only [den_seq, den_region, den_ret, den_skip, den_label, den_exit, den_block, den_scope, den_condV, condV_bool, ops1_cons, ops1_guarded, guardV_bool, guardV_tup, guardD_0, guardD_s, ops1_nil, seqK_normal, seqK_ret, seqK_exit, blockK_normal, blockK_exit, blockK_ret, loopK_normal, loopK_exit, loopK_ret, finK_normal, finK_ret, opK_some, opA_move, opA_assign, opA_pick, pickA_bool, opA_len, opA_bin, opA_un, opA_ia, opA_load, opA_store, opA_conv, opA_make, opA_append, opA_copy, opA_max, opA_min, opA_slice, opA_call, opA_callq, opA_extract, extA_tup, Option.getD_some, Option.getD_none, setO_some, setO_none, ev_tmp, ev_int, ev_bool, ev_nil, ev_fn, upd_at, Option.map_some, Option.map_none, Option.bind_some, List.map_cons, List.map_nil, List.cons_append, List.nil_append, reduceIte, Nat.reduceEqDiff, Nat.reduceAdd, decide_true, decide_false, Bool.true_eq_false, Bool.false_eq_true, len22, lenN22, k_lss, k_leq, k_gtr, k_geq, k_eql, k_neq, ia22, ld31, conv31_40, conv40_31, h1, h0, h5, h22, h23, q1, c1, c2, e2, f1, f2, f3, f4, g1, g2]
    refine ih (i + 1) _ _ (by omega) rfl ⟨?_, ?_, ?_, ?_, ?_, ?_, ?_⟩
    · simp only [upd_at, reduceIte, Nat.reduceEqDiff, h1]
    · simp only [upd_at, reduceIte, Nat.reduceEqDiff, h0]
    · simp only [upd_at, reduceIte, Nat.reduceEqDiff, h5]
    · simp only [upd_at, reduceIte, Nat.reduceEqDiff, h22]
    · simp only [upd_at, reduceIte, Nat.reduceEqDiff]; rfl
    · rw [upd_self]
    · omega
end Go.Ab
