/- The statement LimbOrders, abstractly. Conditions: limbs in range. -/
import Derived.Test.YtlmffjpfjbhliaaAbL13
namespace Go.Ab
open Go.Proofs
set_option maxRecDepth 100000
set_option linter.unusedSimpArgs false

theorem Hold.sh {s : St} {v : AV} {o : List Nat} (h : Hold s v o) (ht : ∀ p t off len e, v ≠ .own p t off len e) : Sh v o := by
  rcases h with ⟨rfl, rfl⟩ | ⟨p, t, rfl, _⟩ | ⟨p, t, rfl, _⟩
  · exact ⟨.tight, rfl⟩
  · exact ⟨_, rfl⟩
  · exact absurd rfl (ht _ _ _ _ _)
theorem more22a (s : St) (K : Nat) : moreA Try.prog 31 1 (some 3) s (.int .i64 (K : Int)) = (zeroOf Try.prog 31).bind fun z => if 0 ≤ (K : Int) ∧ (K : Int) < 2147483648 ∧ byOf Try.prog 31 ≤ 65536 ∧ z.length = 1 then some (rep (K : Int).toNat z, (K : Int).toNat) else none := by
  simp only [moreA, Option.map_some, tk3]
theorem more22b (K : Nat) (hK : K ≤ 1000000) : 0 ≤ (K : Int) ∧ (K : Int) < 2147483648 ∧ byOf Try.prog 31 ≤ 65536 ∧ ([AV.int .u32 0] : List AV).length = 1 := ⟨by omega, by omega, by rw [by31]; decide, rfl⟩
theorem more22 (s : St) (K : Nat) (hK : K ≤ 1000000) : moreA Try.prog 31 1 (some 3) s (.int .i64 (K : Int)) = some (encC (List.replicate K 0), K) := by
  rw [more22a, zero31]
  have h := more22b K hK
  rw [Option.bind_some]
  exact (if_pos h).trans (by rw [Int.toNat_natCast, rep_zero])
theorem append_of (P : Program) (el : TypeId) (a b : TypeId) (d : Nat) (s s1 : St) (x y : AV) (e : Nat) (ys xs : List AV) (n len : Nat) (ht : tkOf P a = .sl el) (he : esz P el = some e) (hm : moreA P el e (some b) s y = some (ys, n)) (hb : baseA e s x = some (xs, len, s1))
    (hc : (len + n) * byOf P el ≤ 140737488355328 ∧ len + n ≤ 9223372036854775807 ∧ (zeroOf P el).map List.length = some e) :
    appendA P #[a, b] d s x y = some (.sl (xs ++ ys) (len + n) (.tok d ((s1 d).t + 1)), upd s1 d ⟨(s1 d).t + 1, .tok e⟩) := by
  have e1 : (#[a, b] : Array TypeId)[0]? = some a := rfl
  have e2 : (#[a, b] : Array TypeId)[1]? = some b := rfl
  simp only [appendA, e1, e2, Option.map_some, ht, he, Option.bind_some, hm, hb]
  exact if_pos hc
theorem zeros22a (d : Nat) (s : St) (p t : Nat) (o : List Nat) (K : Nat) (hK : K ≤ 1000000) (hl : o.length ≤ 1000000) (hp : s p = ⟨t, .tok 1⟩) (hm : moreA Try.prog 31 1 (some 3) s (.int .i64 (K : Int)) = some (encC (List.replicate K 0), K)) :
    appendA Try.prog #[22, 3] d s (.sl (encC o) o.length (.tok p t)) (.int .i64 (K : Int)) = 
      some (.sl (encC o ++ encC (List.replicate K 0)) (o.length + K) (.tok d (((upd s p ⟨t, .dead⟩) d).t + 1)), upd (upd s p ⟨t, .dead⟩) d ⟨((upd s p ⟨t, .dead⟩) d).t + 1, .tok 1⟩) := by
  have hb : baseA 1 s (.sl (encC o) o.length (.tok p t)) = some (encC o, o.length, upd s p ⟨t, .dead⟩) := by
    simp only [baseA, hp, encC_len, Nat.mul_one, and_self, if_true]
  exact append_of Try.prog 31 22 3 d s _ _ _ 1 _ _ K _ tk22 esz31 hm hb ⟨by rw [by31]; omega, by omega, by rw [zero31]; rfl⟩
/-- So many zeros are put behind. -/
theorem zeros22 (d : Nat) (s : St) (p t : Nat) (o : List Nat) (K : Nat) (hp : s p = ⟨t, .tok 1⟩) (hl : o.length ≤ 1000000) (hK : K ≤ 1000000) :
    ∃ v' s', appendA Try.prog #[22, 3] d s (.sl (encC o) o.length (.tok p t)) (.int .i64 (K : Int)) = some (v', s') ∧ Sh v' (o ++ List.replicate K 0) := by
  have h := zeros22a d s p t o K hK hl hp (more22 s K hK)
  rw [← encC_app, show o.length + K = (o ++ List.replicate K 0).length by rw [List.length_append, List.length_replicate]] at h
  exact ⟨_, _, h, _, rfl⟩
theorem unA_neg (k : Int) (h : -1 ≤ k ∧ k ≤ 1) : unA .neg (.int .i64 k) = some (.int .i64 (-k)) := by
  simp only [unA]
  rw [i64_wrap _ (by omega) (by omega)]
  congr 2
  omega

set_option maxHeartbeats 4000000 in
theorem orders_eq (n d : Nat) (hn : 100000 ≤ n) (b1 b2 b3 : Bool) (a b c : List Nat) (z : Int) (ha : Limbs a) (hb : Limbs b) (hc : Limbs c) : evalFn Try.prog cfg0 n (d+5) 3 [.tree (encL b1 a), .tree (encL b2 b), .tree (encL b3 c), .tree (.int .i64 z)] = some (.tree (.bool true), [[], [], [], []]) := by
  rw [evalFn_go _ Try.func3 (by unfold Try.f3; rfl) (by unfold Try.f3; decide) (Nat.le_of_ble_eq_true (by unfold Try.f3; rfl)) (by kernel_rfl)]
  have w := cAwake n (d + 1) hn
  have f := cFew n (d + 3) b1 b2 a b
  by_cases h1 : (a.length : Int) ≤ 30
  rotate_left
  · simp only [den_seq, den_region, den_ret, den_skip, den_label, den_exit, den_block, den_scope, den_condV, condV_bool, ops1_cons, ops1_guarded, guardV_bool, guardV_tup, guardD_0, guardD_s, ops1_nil, seqK_normal, seqK_ret, seqK_exit, blockK_normal, blockK_exit, blockK_ret, loopK_normal, loopK_exit, loopK_ret, finK_normal, finK_ret, opK_some, opA_move, opA_assign, opA_pick, pickA_bool, opA_len, opA_bin, opA_un, opA_ia, opA_load, opA_store, opA_conv, opA_make, opA_append, opA_copy, opA_max, opA_min, opA_slice, opA_call, opA_callq, opA_extract, extA_tup, Option.getD_some, Option.getD_none, setO_some, setO_none, ev_tmp, ev_int, ev_bool, ev_nil, ev_fn, upd_at, Option.map_some, Option.map_none, Option.bind_some, List.map_cons, List.map_nil, List.cons_append, List.nil_append, reduceIte, Nat.reduceEqDiff, Nat.reduceAdd, decide_true, decide_false, Bool.true_eq_false, Bool.false_eq_true, env0, List.getElem?_cons_zero, List.getElem?_cons_succ, len22, lenN22, k_lss, k_leq, k_gtr, k_geq, k_eql, k_neq, ia22, ld31, conv31_40, conv40_31, f, h1, unA_not, Bool.false_and, Bool.not_false, w]
    exact finish_tree _ _ _ _ _ _ (.bool true) _ _ (by simp only [upd_at, reduceIte]) rfl rfl
  by_cases h2 : (b.length : Int) ≤ 30
  rotate_left
  · simp only [den_seq, den_region, den_ret, den_skip, den_label, den_exit, den_block, den_scope, den_condV, condV_bool, ops1_cons, ops1_guarded, guardV_bool, guardV_tup, guardD_0, guardD_s, ops1_nil, seqK_normal, seqK_ret, seqK_exit, blockK_normal, blockK_exit, blockK_ret, loopK_normal, loopK_exit, loopK_ret, finK_normal, finK_ret, opK_some, opA_move, opA_assign, opA_pick, pickA_bool, opA_len, opA_bin, opA_un, opA_ia, opA_load, opA_store, opA_conv, opA_make, opA_append, opA_copy, opA_max, opA_min, opA_slice, opA_call, opA_callq, opA_extract, extA_tup, Option.getD_some, Option.getD_none, setO_some, setO_none, ev_tmp, ev_int, ev_bool, ev_nil, ev_fn, upd_at, Option.map_some, Option.map_none, Option.bind_some, List.map_cons, List.map_nil, List.cons_append, List.nil_append, reduceIte, Nat.reduceEqDiff, Nat.reduceAdd, decide_true, decide_false, Bool.true_eq_false, Bool.false_eq_true, env0, List.getElem?_cons_zero, List.getElem?_cons_succ, len22, lenN22, k_lss, k_leq, k_gtr, k_geq, k_eql, k_neq, ia22, ld31, conv31_40, conv40_31, f, h1, h2, unA_not, Bool.and_false, Bool.not_false, w]
    exact finish_tree _ _ _ _ _ _ (.bool true) _ _ (by simp only [upd_at, reduceIte]) rfl rfl
  by_cases h3 : (c.length : Int) > 30
  · simp only [den_seq, den_region, den_ret, den_skip, den_label, den_exit, den_block, den_scope, den_condV, condV_bool, ops1_cons, ops1_guarded, guardV_bool, guardV_tup, guardD_0, guardD_s, ops1_nil, seqK_normal, seqK_ret, seqK_exit, blockK_normal, blockK_exit, blockK_ret, loopK_normal, loopK_exit, loopK_ret, finK_normal, finK_ret, opK_some, opA_move, opA_assign, opA_pick, pickA_bool, opA_len, opA_bin, opA_un, opA_ia, opA_load, opA_store, opA_conv, opA_make, opA_append, opA_copy, opA_max, opA_min, opA_slice, opA_call, opA_callq, opA_extract, extA_tup, Option.getD_some, Option.getD_none, setO_some, setO_none, ev_tmp, ev_int, ev_bool, ev_nil, ev_fn, upd_at, Option.map_some, Option.map_none, Option.bind_some, List.map_cons, List.map_nil, List.cons_append, List.nil_append, reduceIte, Nat.reduceEqDiff, Nat.reduceAdd, decide_true, decide_false, Bool.true_eq_false, Bool.false_eq_true, env0, List.getElem?_cons_zero, List.getElem?_cons_succ, len22, lenN22, k_lss, k_leq, k_gtr, k_geq, k_eql, k_neq, ia22, ld31, conv31_40, conv40_31, f, h1, h2, h3, unA_not, Bool.and_self, Bool.not_true, w]
    exact finish_tree _ _ _ _ _ _ (.bool true) _ _ (by simp only [upd_at, reduceIte]) rfl rfl
  have va : val a < B ^ 30 := Nat.lt_of_lt_of_le (val_lt a ha) (Nat.pow_le_pow_right (by decide) (by omega))
  have vb : val b < B ^ 30 := Nat.lt_of_lt_of_le (val_lt b hb) (Nat.pow_le_pow_right (by decide) (by omega))
  have vc : val c < B ^ 30 := Nat.lt_of_lt_of_le (val_lt c hc) (Nat.pow_le_pow_right (by decide) (by omega))
  have na := num_L b1 a ha (by omega)
  have nb := num_L b2 b hb (by omega)
  have nc := num_L b3 c hc (by omega)
  have e31 : B ^ 30 * 4 ≤ B ^ 31 := by rw [show (31 : Nat) = 30 + 1 from rfl, Nat.pow_succ]; exact Nat.mul_le_mul_left _ (by decide)
  have pab : val a + val b < B ^ 31 := by generalize B ^ 31 = q at *; generalize B ^ 30 = p at *; omega
  have pac : val a + val c < B ^ 31 := by generalize B ^ 31 = q at *; generalize B ^ 30 = p at *; omega
  have pbc : val b + val c < B ^ 31 := by generalize B ^ 31 = q at *; generalize B ^ 30 = p at *; omega
  have hp := place_range z 5 (by decide)
  have c0 := fun D s => cPlace n (d + 3) z 5 (by decide) (by decide) D s
  obtain ⟨K, hK⟩ : ∃ K : Nat, placeN z 5 = (K : Int) := ⟨(placeN z 5).toNat, by omega⟩
  rw [hK] at c0 hp
  have c1 := fun D s => cCmp n (d + 1) hn D s na nb
  have c2 := fun D s => cCmp n (d + 1) hn D s nb na
  rw [cmpZ_flip (val a) (val b)] at c2
  have c3 := fun D s => cAdd n (d + 2) hn D s na nc
  have c4 := fun D s => cAdd n (d + 2) hn D s nb nc
  have c5 := fun D s => cCmp n (d + 1) hn D s (num_R _ 31 (by decide) pac) (num_R _ 31 (by decide) pbc)
  rw [cmpZ_add] at c5
  have l1 := fun D s => cLimbsT n (d + 3) (sh_L b1 a) (by omega) D s
  have f1 := unA_neg _ (cmpZ_range (val a) (val b))
  have p1 : (-cmpZ (val a) (val b) == -cmpZ (val a) (val b)) = true := beq_self_eq_true _
  have p2 : (cmpZ (val a) (val b) == cmpZ (val a) (val b)) = true := beq_self_eq_true _
  simp only [den_seq, den_region, den_ret, den_skip, den_label, den_exit, den_block, den_scope, den_condV, condV_bool, ops1_cons, ops1_guarded, guardV_bool, guardV_tup, guardD_0, guardD_s, ops1_nil, seqK_normal, seqK_ret, seqK_exit, blockK_normal, blockK_exit, blockK_ret, loopK_normal, loopK_exit, loopK_ret, finK_normal, finK_ret, opK_some, opA_move, opA_assign, opA_pick, pickA_bool, opA_len, opA_bin, opA_un, opA_ia, opA_load, opA_store, opA_conv, opA_make, opA_append, opA_copy, opA_max, opA_min, opA_slice, opA_call, opA_callq, opA_extract, extA_tup, Option.getD_some, Option.getD_none, setO_some, setO_none, ev_tmp, ev_int, ev_bool, ev_nil, ev_fn, upd_at, Option.map_some, Option.map_none, Option.bind_some, List.map_cons, List.map_nil, List.cons_append, List.nil_append, reduceIte, Nat.reduceEqDiff, Nat.reduceAdd, decide_true, decide_false, Bool.true_eq_false, Bool.false_eq_true, env0, List.getElem?_cons_zero, List.getElem?_cons_succ, len22, lenN22, k_lss, k_leq, k_gtr, k_geq, k_eql, k_neq, ia22, ld31, conv31_40, conv40_31, f, h1, h2, h3, unA_not, Bool.and_self, Bool.not_true, c1, l1, c0]
  generalize hst : (upd _ 25 _ : St) = s1
  obtain ⟨v', s', ez, hz⟩ := zeros22 28 s1 25 _ a K (by rw [← hst]; exact upd_self _ _ _) (by omega) (by omega)
  have nz : Num v' (val a) := by
    have hL : Limbs (a ++ List.replicate K 0) := ha.app (fun x hx => by rw [List.eq_of_mem_replicate hx]; decide)
    have := num_S hz hL (by rw [List.length_append, List.length_replicate]; omega)
    rwa [val_zeros] at this
  have c6 := fun D s => cCmp n (d + 1) hn D s nz na
  have p3 := cmp0 (val a) (val a) rfl
  have c7 := fun D s => cNorm n (d + 3) hn D s nz
  have c8 := fun D s => cNorm n (d + 3) hn D s na
  have c9 := fun D s => cSameR n (d + 3) hn (val a) 30 (by decide) va D s
  have c10 := fun D s => cAdd n (d + 2) hn D s nz nb
  have c11 := fun D s => cAdd n (d + 2) hn D s na nb
  have c12 := fun D s => cSameR n (d + 3) hn (val a + val b) 31 (by decide) pab D s
  have c13 := fun D s => cLen n (d + 2) hn D s nz
  have c14 := fun D s => cLen n (d + 2) hn D s na
  have p4 : (((blen (val a) : Nat) : Int) == (blen (val a) : Int)) = true := beq_self_eq_true _
  simp only [den_seq, den_region, den_ret, den_skip, den_label, den_exit, den_block, den_scope, den_condV, condV_bool, ops1_cons, ops1_guarded, guardV_bool, guardV_tup, guardD_0, guardD_s, ops1_nil, seqK_normal, seqK_ret, seqK_exit, blockK_normal, blockK_exit, blockK_ret, loopK_normal, loopK_exit, loopK_ret, finK_normal, finK_ret, opK_some, opA_move, opA_assign, opA_pick, pickA_bool, opA_len, opA_bin, opA_un, opA_ia, opA_load, opA_store, opA_conv, opA_make, opA_append, opA_copy, opA_max, opA_min, opA_slice, opA_call, opA_callq, opA_extract, extA_tup, Option.getD_some, Option.getD_none, setO_some, setO_none, ev_tmp, ev_int, ev_bool, ev_nil, ev_fn, upd_at, Option.map_some, Option.map_none, Option.bind_some, List.map_cons, List.map_nil, List.cons_append, List.nil_append, reduceIte, Nat.reduceEqDiff, Nat.reduceAdd, decide_true, decide_false, Bool.true_eq_false, Bool.false_eq_true, env0, List.getElem?_cons_zero, List.getElem?_cons_succ, len22, lenN22, k_lss, k_leq, k_gtr, k_geq, k_eql, k_neq, ia22, ld31, conv31_40, conv40_31, ez, c2, f1, p1]
  refine forget (fun env => env 0 = encL b1 a ∧ env 1 = encL b2 b ∧ env 2 = encL b3 c ∧ env 9 = .int .i64 (cmpZ (val a) (val b)) ∧ env 10 = v' ∧ env 35 = .bool true) ⟨by simp only [upd_at, reduceIte, Nat.reduceEqDiff, env0, List.getElem?_cons_zero, List.getElem?_cons_succ], by simp only [upd_at, reduceIte, Nat.reduceEqDiff, env0, List.getElem?_cons_zero, List.getElem?_cons_succ], by simp only [upd_at, reduceIte, Nat.reduceEqDiff, env0, List.getElem?_cons_zero, List.getElem?_cons_succ], by simp only [upd_at, reduceIte, Nat.reduceEqDiff, env0, List.getElem?_cons_zero, List.getElem?_cons_succ], by simp only [upd_at, reduceIte, Nat.reduceEqDiff, env0, List.getElem?_cons_zero, List.getElem?_cons_succ], by simp only [upd_at, reduceIte, Nat.reduceEqDiff, env0, List.getElem?_cons_zero, List.getElem?_cons_succ]⟩ ?_
  intro env ⟨k0, k1, k2, k9, k10, k35⟩
  simp only [den_seq, den_region, den_ret, den_skip, den_label, den_exit, den_block, den_scope, den_condV, condV_bool, ops1_cons, ops1_guarded, guardV_bool, guardV_tup, guardD_0, guardD_s, ops1_nil, seqK_normal, seqK_ret, seqK_exit, blockK_normal, blockK_exit, blockK_ret, loopK_normal, loopK_exit, loopK_ret, finK_normal, finK_ret, opK_some, opA_move, opA_assign, opA_pick, pickA_bool, opA_len, opA_bin, opA_un, opA_ia, opA_load, opA_store, opA_conv, opA_make, opA_append, opA_copy, opA_max, opA_min, opA_slice, opA_call, opA_callq, opA_extract, extA_tup, Option.getD_some, Option.getD_none, setO_some, setO_none, ev_tmp, ev_int, ev_bool, ev_nil, ev_fn, upd_at, Option.map_some, Option.map_none, Option.bind_some, List.map_cons, List.map_nil, List.cons_append, List.nil_append, reduceIte, Nat.reduceEqDiff, Nat.reduceAdd, decide_true, decide_false, Bool.true_eq_false, Bool.false_eq_true, len22, lenN22, k_lss, k_leq, k_gtr, k_geq, k_eql, k_neq, ia22, ld31, conv31_40, conv40_31, k0, k1, k2, k9, k10, k35, c3, c4, c5, p2]
  refine forget (fun env => env 0 = encL b1 a ∧ env 1 = encL b2 b ∧ env 2 = encL b3 c ∧ env 9 = .int .i64 (cmpZ (val a) (val b)) ∧ env 10 = v' ∧ env 46 = .bool true) ⟨by simp only [upd_at, reduceIte, Nat.reduceEqDiff, k0, k1, k2, k9, k10], by simp only [upd_at, reduceIte, Nat.reduceEqDiff, k0, k1, k2, k9, k10], by simp only [upd_at, reduceIte, Nat.reduceEqDiff, k0, k1, k2, k9, k10], by simp only [upd_at, reduceIte, Nat.reduceEqDiff, k0, k1, k2, k9, k10], by simp only [upd_at, reduceIte, Nat.reduceEqDiff, k0, k1, k2, k9, k10], by simp only [upd_at, reduceIte, Nat.reduceEqDiff, k0, k1, k2, k9, k10]⟩ ?_
  clear k0 k1 k2 k9 k10 k35
  intro env ⟨k0, k1, k2, k9, k10, k46⟩
  simp only [den_seq, den_region, den_ret, den_skip, den_label, den_exit, den_block, den_scope, den_condV, condV_bool, ops1_cons, ops1_guarded, guardV_bool, guardV_tup, guardD_0, guardD_s, ops1_nil, seqK_normal, seqK_ret, seqK_exit, blockK_normal, blockK_exit, blockK_ret, loopK_normal, loopK_exit, loopK_ret, finK_normal, finK_ret, opK_some, opA_move, opA_assign, opA_pick, pickA_bool, opA_len, opA_bin, opA_un, opA_ia, opA_load, opA_store, opA_conv, opA_make, opA_append, opA_copy, opA_max, opA_min, opA_slice, opA_call, opA_callq, opA_extract, extA_tup, Option.getD_some, Option.getD_none, setO_some, setO_none, ev_tmp, ev_int, ev_bool, ev_nil, ev_fn, upd_at, Option.map_some, Option.map_none, Option.bind_some, List.map_cons, List.map_nil, List.cons_append, List.nil_append, reduceIte, Nat.reduceEqDiff, Nat.reduceAdd, decide_true, decide_false, Bool.true_eq_false, Bool.false_eq_true, len22, lenN22, k_lss, k_leq, k_gtr, k_geq, k_eql, k_neq, ia22, ld31, conv31_40, conv40_31, k0, k1, k2, k9, k10, k46, c6, p3, c7, c8, c9]
  refine forget (fun env => env 0 = encL b1 a ∧ env 1 = encL b2 b ∧ env 2 = encL b3 c ∧ env 9 = .int .i64 (cmpZ (val a) (val b)) ∧ env 10 = v' ∧ env 59 = .bool true) ⟨by simp only [upd_at, reduceIte, Nat.reduceEqDiff, k0, k1, k2, k9, k10], by simp only [upd_at, reduceIte, Nat.reduceEqDiff, k0, k1, k2, k9, k10], by simp only [upd_at, reduceIte, Nat.reduceEqDiff, k0, k1, k2, k9, k10], by simp only [upd_at, reduceIte, Nat.reduceEqDiff, k0, k1, k2, k9, k10], by simp only [upd_at, reduceIte, Nat.reduceEqDiff, k0, k1, k2, k9, k10], by simp only [upd_at, reduceIte, Nat.reduceEqDiff, k0, k1, k2, k9, k10]⟩ ?_
  clear k0 k1 k2 k9 k10 k46
  intro env ⟨k0, k1, k2, k9, k10, k59⟩
  simp only [den_seq, den_region, den_ret, den_skip, den_label, den_exit, den_block, den_scope, den_condV, condV_bool, ops1_cons, ops1_guarded, guardV_bool, guardV_tup, guardD_0, guardD_s, ops1_nil, seqK_normal, seqK_ret, seqK_exit, blockK_normal, blockK_exit, blockK_ret, loopK_normal, loopK_exit, loopK_ret, finK_normal, finK_ret, opK_some, opA_move, opA_assign, opA_pick, pickA_bool, opA_len, opA_bin, opA_un, opA_ia, opA_load, opA_store, opA_conv, opA_make, opA_append, opA_copy, opA_max, opA_min, opA_slice, opA_call, opA_callq, opA_extract, extA_tup, Option.getD_some, Option.getD_none, setO_some, setO_none, ev_tmp, ev_int, ev_bool, ev_nil, ev_fn, upd_at, Option.map_some, Option.map_none, Option.bind_some, List.map_cons, List.map_nil, List.cons_append, List.nil_append, reduceIte, Nat.reduceEqDiff, Nat.reduceAdd, decide_true, decide_false, Bool.true_eq_false, Bool.false_eq_true, len22, lenN22, k_lss, k_leq, k_gtr, k_geq, k_eql, k_neq, ia22, ld31, conv31_40, conv40_31, k0, k1, k2, k9, k10, k59, c10, c11, c12, c13, c14, p4, w]
  exact finish_tree _ _ _ _ _ _ (.bool true) _ _ (by simp only [upd_at, reduceIte]) rfl rfl
end Go.Ab
