/- Logic of numbers. Conditions: numbers that are shown. -/
import Derived.Test.YtdibanolokkniaaDoorAbnA13
namespace Go.Ab
open Go.Proofs
set_option maxRecDepth 100000
set_option linter.unusedSimpArgs false

theorem callA_own {cfg : Cfg} {call : FuncId → List Arg → Option Out} {d : Nat} {s : St} {f : FuncId} {vs : List AV} {xs : List AV} {len e : Nat} (ht : vs.all isTree = true) (hc : call f (vs.map Arg.tree) = some (.own xs len e, vs.map fun _ => [])) : callA cfg call d s f vs = some (.own d ((s d).t + 1) 0 len e, upd s d ⟨(s d).t + 1, .buf xs⟩) := by
  simp only [callA, argsA_trees f s vs 0 ht, Option.bind_some, givesL_trees, lendsL_trees vs ht, List.nodup_nil, List.not_mem_nil, false_implies, implies_true, and_self, if_true, hc, List.foldl_nil, ite_self, backA_trees, resA]
theorem made_own (n d : Nat) (hn : 100000 ≤ n) (D : Nat) (s : St) (b : Bool) (p t : Nat) (o : List Nat) (len : Nat) (hp : s p = ⟨t, .buf (encC o)⟩) (hl : o.length = len) (hk : len ≤ 1000) (hL : Limbs o) : callA cfg0 (evalFn Tryd.prog cfg0 n (d+2)) D s 38 [.bool b, .own p t 0 len 1] = some (madeV (sgn b (val o)), upd s p ⟨t, .frz (encC o)⟩) := by
  subst hl
  have this := made_eq n d b .l o hL (by omega) (by omega)
  rw [show encL .l o = .sl (encC o) o.length .loose from rfl] at this
  have hf : flatR (.tree (madeV (sgn b (val o)))) = false := rfl
  rw [← madeV_eq] at this
  have ht : (encC o).take o.length = encC o := List.take_of_length_le (by rw [encC_len]; exact Nat.le_refl _)
  have hfz : frzAt s p = upd s p ⟨t, .frz (encC o)⟩ := by unfold frzAt; rw [hp]
  simp [callA, argsA, argA, cellsAt, hp, ht, encC_len, givesL, lendsL, givesOf, lendsOf, this, hf, backA, resA, hfz, show ∀ f j, cfg0.lin f j = false from fun _ _ => rfl]
theorem add_own1 (n d : Nat) (hn : 100000 ≤ n) (D : Nat) (s : St) (p t : Nat) (o : List Nat) (len : Nat) (hp : s p = ⟨t, .buf (encC o)⟩) (hl : o.length = len) (hk : len ≤ 1000) (hL : Limbs o) : callA cfg0 (evalFn Tryd.prog cfg0 n (d+2)) D s 59 [.own p t 0 len 1, .sl [.int .u32 1] 1 .tight] = some (encR (val o + 1), upd s p ⟨t, .frz (encC o)⟩) := by
  subst hl
  have this := fnAdd_eq n d .l .t o [1] hL (limbs_one (by decide)) (by omega) (by simp; omega) (by omega) (by simp)
  rw [show encL .l o = .sl (encC o) o.length .loose from rfl, show encL .t [1] = .sl [.int .u32 1] 1 .tight from rfl, show val [1] = 1 from rfl] at this
  have hf : flatR (.tree (encR (val o + 1))) = false := rfl
  have ht : (encC o).take o.length = encC o := List.take_of_length_le (by rw [encC_len]; exact Nat.le_refl _)
  have hfz : frzAt s p = upd s p ⟨t, .frz (encC o)⟩ := by unfold frzAt; rw [hp]
  simp [callA, argsA, argA, cellsAt, hp, ht, encC_len, givesL, lendsL, givesOf, lendsOf, this, hf, backA, resA, hfz, show ∀ f j, cfg0.lin f j = false from fun _ _ => rfl]
/-- Put together up to a place. -/
def zipI (op : Nat) (x y : List Nat) (i : Nat) : List Nat := (List.zipWith (wordN op) x y).take i ++ x.drop i
theorem zipI_len (op : Nat) (x y : List Nat) (i : Nat) (h : x.length = y.length) : (zipI op x y i).length = x.length := by
  simp only [zipI, List.length_append, List.length_take, List.length_zipWith, List.length_drop]; omega
theorem zipI_0 (op : Nat) (x y : List Nat) : zipI op x y 0 = x := by simp [zipI]
theorem zipI_all (op : Nat) (x y : List Nat) (h : x.length = y.length) : zipI op x y x.length = List.zipWith (wordN op) x y := by
  simp only [zipI, List.drop_length, List.append_nil]
  exact List.take_of_length_le (by rw [List.length_zipWith]; omega)
theorem zipI_get (op : Nat) (x y : List Nat) (i : Nat) (h : x.length = y.length) (hi : i < x.length) : (zipI op x y i).getD i 0 = x.getD i 0 := by
  have hl : ((List.zipWith (wordN op) x y).take i).length = i := by rw [List.length_take, List.length_zipWith]; omega
  rw [zipI, List.getD_eq_getElem?_getD, List.getD_eq_getElem?_getD, List.getElem?_append_right (by omega), hl, Nat.sub_self, List.getElem?_drop, Nat.add_zero]
theorem zipI_set (op : Nat) (x y : List Nat) (i : Nat) (h : x.length = y.length) (hi : i < x.length) : (zipI op x y i).set i (wordN op (x.getD i 0) (y.getD i 0)) = zipI op x y (i + 1) := by
  have hz : i < (List.zipWith (wordN op) x y).length := by rw [List.length_zipWith]; omega
  have hl : ((List.zipWith (wordN op) x y).take i).length = i := by rw [List.length_take]; omega
  rw [zipI, List.set_append_right _ _ (by omega), hl, Nat.sub_self, List.drop_eq_getElem_cons hi, List.set_cons_zero, zipI, List.take_succ_eq_append_getElem hz, List.append_assoc]
  have hiy : i < y.length := by omega
  simp [List.getD_eq_getElem?_getD, hi, hiy]
theorem zipI_limbs (op : Nat) (x y : List Nat) (i : Nat) (hx : Limbs x) (hy : Limbs y) : Limbs (zipI op x y i) := ((limbs_zip op x y hx hy).take i).app (hx.drop i)
set_option maxHeartbeats 8000000 in
theorem logic_eq (n d : Nat) (hn : 100000 ≤ n) (op : Nat) (g g' : Gk) (z z' : Int) (hlt : z.natAbs < B ^ 12) (hlt' : z'.natAbs < B ^ 12) : evalFn Tryd.prog cfg0 n (d+6) 41 [.tree (.int .i64 (op : Int)), .tree (canA g z), .tree (canA g' z')] = some (.tree (madeV (logZ op z z')), [[], [], []]) := by
  rw [evalFn_go _ Tryd.func41 (by unfold Tryd.f41; rfl) (by unfold Tryd.f41; decide) (Nat.le_of_ble_eq_true (by unfold Tryd.f41; rfl)) (by kernel_rfl)]
  have b1 := fun D s => callA_own (cfg := cfg0) (d := D) (s := s) (vs := [canA g z]) rfl (nbits_eq n d hn g z hlt)
  have b2 := fun D s => callA_own (cfg := cfg0) (d := D) (s := s) (vs := [canA g' z']) rfl (nbits_eq n d hn g' z' hlt')
  obtain ⟨hx, hxl, hxv⟩ := tcL_ok z hlt
  obtain ⟨hy, hyl, hyv⟩ := tcL_ok z' hlt'
  have tt : ∀ g z, ([canA g z] : List AV).all isTree = true := fun _ _ => rfl
  simp only [den_seq, den_region, den_regionT, kill_nil, kill_cons, killM_none, killM_some, fr_move, fr_assign, fr_pick, fr_bin, fr_un, fr_conv, fr_extract, fr_load, fr_store, fr_fa, fr_fd, fr_ia, fr_index, fr_slice, fr_build, fr_bs, fr_box, fr_nil, fr_blt, fr_tmp, fr_call, fr_callg, fr_alloc, fr_allocg, fr_make, fr_makeg, keep0, callQQ_f, callQQ_t, Nat.reduceBEq, Bool.or_self, Bool.or_false, Bool.or_true, Bool.and_true, Bool.and_false, Bool.true_and, Bool.false_and, Option.isNone_none, Option.isNone_some, Option.isSome_some, Option.isSome_none, den_ret, den_skip, den_label, den_exit, den_block, den_scope, den_condV, condV_bool, ops1_cons, ops1_guarded, guardV_bool, guardV_tup, guardD_0, guardD_s, ops1_nil, seqK_normal, seqK_ret, seqK_exit, blockK_normal, blockK_exit, blockK_ret, loopK_normal, loopK_exit, loopK_ret, finK_normal, finK_ret, opK_some, opA_move, opA_assign, opA_pick, pickA_bool, opA_len, opA_bin, opA_un, opA_ia, opA_load, opA_store, opA_conv, opA_make, opA_append, opA_copy, opA_max, opA_min, opA_slice, opA_call, opA_callq, opA_extract, extA_tup, Option.getD_some, Option.getD_none, setO_some, setO_none, ev_tmp, ev_int, ev_bool, ev_nil, ev_fn, upd_at, Option.map_some, Option.map_none, Option.bind_some, List.map_cons, List.map_nil, List.cons_append, List.nil_append, ↓reduceIte, Nat.reduceEqDiff, Nat.reduceAdd, decide_true, decide_false, Bool.true_eq_false, Bool.false_eq_true, env0, List.getElem?_cons_zero, List.getElem?_cons_succ, len22, lenN22, k_lss, k_leq, k_gtr, k_geq, k_eql, k_neq, ia22, ld31, conv31_40, conv40_31, opA_box, opA_alloc, opA_fa, opA_fd, opA_build, box_agg, dead_t, ld_ptr, ldE_24, ldE_4, ldE_22, st_24, stE_buf, fa_0, fa_1, faE_buf, bd_0, bd_2, bd_2R, fd_1, zero24, Nat.zero_add, st0_3', b1, b2, tt]
  generalize hX : tcL z = x at *
  generalize hY : tcL z' = y at *
  refine forgetS (fun s => (lenA Tryd.prog 22 s (.own 13 1 0 13 1)).map (·, s)) (fun env s => env 0 = .int .i64 (op : Int) ∧ env 6 = .ptr 6 1 0 ∧ env 8 = .own 13 1 0 13 1 ∧ env 9 = .own 15 1 0 13 1 ∧ s 13 = ⟨1, .buf (encC x)⟩ ∧ s 15 = ⟨1, .buf (encC y)⟩ ∧ ∃ p q, s 6 = ⟨1, .buf [p, q]⟩) ⟨by simp only [upd_at, ↓reduceIte, Nat.reduceEqDiff, env0, List.getElem?_cons_zero, List.getElem?_cons_succ], by simp only [upd_at, ↓reduceIte, Nat.reduceEqDiff], by simp only [upd_at, ↓reduceIte, Nat.reduceEqDiff], by simp only [upd_at, ↓reduceIte, Nat.reduceEqDiff], by simp only [upd_at, ↓reduceIte, Nat.reduceEqDiff], by simp only [upd_at, ↓reduceIte, Nat.reduceEqDiff], .bool false, .sl [] 0 .nil, by simp only [upd_at, ↓reduceIte, Nat.reduceEqDiff]⟩ ?_
  clear b1 b2
  intro env s ⟨e0, e6, e8, e9, j13, j15, p, q, j6⟩
  have ln := len_own s 13 1 0 13 _ j13
  rw [show ((13 : Nat) : Int) = 13 from rfl] at ln
  simp only [den_seq, den_region, den_regionT, kill_nil, kill_cons, killM_none, killM_some, fr_move, fr_assign, fr_pick, fr_bin, fr_un, fr_conv, fr_extract, fr_load, fr_store, fr_fa, fr_fd, fr_ia, fr_index, fr_slice, fr_build, fr_bs, fr_box, fr_nil, fr_blt, fr_tmp, fr_call, fr_callg, fr_alloc, fr_allocg, fr_make, fr_makeg, keep0, callQQ_f, callQQ_t, Nat.reduceBEq, Bool.or_self, Bool.or_false, Bool.or_true, Bool.and_true, Bool.and_false, Bool.true_and, Bool.false_and, Option.isNone_none, Option.isNone_some, Option.isSome_some, Option.isSome_none, den_ret, den_skip, den_label, den_exit, den_block, den_scope, den_condV, condV_bool, ops1_cons, ops1_guarded, guardV_bool, guardV_tup, guardD_0, guardD_s, ops1_nil, seqK_normal, seqK_ret, seqK_exit, blockK_normal, blockK_exit, blockK_ret, loopK_normal, loopK_exit, loopK_ret, finK_normal, finK_ret, opK_some, opA_move, opA_assign, opA_pick, pickA_bool, opA_len, opA_bin, opA_un, opA_ia, opA_load, opA_store, opA_conv, opA_make, opA_append, opA_copy, opA_max, opA_min, opA_slice, opA_call, opA_callq, opA_extract, extA_tup, Option.getD_some, Option.getD_none, setO_some, setO_none, ev_tmp, ev_int, ev_bool, ev_nil, ev_fn, upd_at, Option.map_some, Option.map_none, Option.bind_some, List.map_cons, List.map_nil, List.cons_append, List.nil_append, ↓reduceIte, Nat.reduceEqDiff, Nat.reduceAdd, decide_true, decide_false, Bool.true_eq_false, Bool.false_eq_true, len22, lenN22, k_lss, k_leq, k_gtr, k_geq, k_eql, k_neq, ia22, ld31, conv31_40, conv40_31, opA_box, opA_alloc, opA_fa, opA_fd, opA_build, box_agg, dead_t, ld_ptr, ldE_24, ldE_4, ldE_22, st_24, stE_buf, fa_0, fa_1, faE_buf, bd_0, bd_2, bd_2R, fd_1, zero24, Nat.zero_add, ln, den_loop]
  refine loop_ends (X := Nat) (fun i env s => env 0 = .int .i64 (op : Int) ∧ env 6 = .ptr 6 1 0 ∧ env 8 = .own 13 1 0 13 1 ∧ env 9 = .own 15 1 0 13 1 ∧ env 17 = .int .i64 13 ∧ env 18 = .int .i64 (i : Int) ∧ s 13 = ⟨1, .buf (encC (zipI op x y i))⟩ ∧ s 15 = ⟨1, .buf (encC y)⟩ ∧ s 6 = ⟨1, .buf [p, q]⟩ ∧ i ≤ 13) (fun i => 13 - i) (fun _ => (.tree (madeV (logZ op z z')), [[], [], []])) ?_ n 0 _ _ (by omega) ⟨by simp only [upd_at, ↓reduceIte, Nat.reduceEqDiff, e0], by simp only [upd_at, ↓reduceIte, Nat.reduceEqDiff, e6], by simp only [upd_at, ↓reduceIte, Nat.reduceEqDiff, e8], by simp only [upd_at, ↓reduceIte, Nat.reduceEqDiff, e9], by simp only [upd_at, ↓reduceIte, Nat.reduceEqDiff], by simp only [upd_at, ↓reduceIte, Nat.reduceEqDiff]; rfl, by rw [zipI_0]; exact j13, j15, j6, by omega⟩
  clear e0 e6 e8 e9 j13 j15 j6 ln
  intro k i hxk ih env s ⟨e0, e6, e8, e9, e17, e18, j13, j15, j6, hi⟩
  by_cases hp : i = 13
  · subst hp
    have q1 : ¬ (((13 : Nat) : Int) < 13) := by omega
    have hza := zipI_all op x y (by omega)
    rw [hxl] at hza
    rw [hza] at j13
    have hzL := limbs_zip op x y hx hy
    have hzv := val_zip op x y hx hy (by omega)
    have hzl : (List.zipWith (wordN op) x y).length = 13 := by rw [List.length_zipWith]; omega
    rw [hxv, hyv] at hzv
    generalize hO : List.zipWith (wordN op) x y = o at *
    have htop := top_limb o hzL hzl
    have ia := ia_own s 13 1 o 13 .i64 12 j13 (by decide) (by decide)
    rw [show (12 : Int).toNat = 12 from rfl] at ia
    have ld := ld_own s 13 1 o 12 j13 (by omega)
    have sh := s_shr Tryd.prog 48 (o.getD 12 0) .u64 31 (by decide) (by decide)
    rw [show (2 : Nat) ^ (31 : Int).toNat = 2 ^ 31 from rfl] at sh
    by_cases ht : o.getD 12 0 / 2 ^ 31 = 0
    · have pt : (((o.getD 12 0 / 2 ^ 31 : Nat) : Int) == 0) = true := by rw [ht]; rfl
      have hres : sgn false (val o) = logZ op z z' := by
        rw [logZ, ← hzv, unZ, htop, if_pos ht]; rfl
      have c1 := fun D => made_own n (d + 3) hn D s false 13 1 o 13 j13 hzl (by omega) hzL
      rw [hres] at c1
      simp only [den_seq, den_region, den_regionT, kill_nil, kill_cons, killM_none, killM_some, fr_move, fr_assign, fr_pick, fr_bin, fr_un, fr_conv, fr_extract, fr_load, fr_store, fr_fa, fr_fd, fr_ia, fr_index, fr_slice, fr_build, fr_bs, fr_box, fr_nil, fr_blt, fr_tmp, fr_call, fr_callg, fr_alloc, fr_allocg, fr_make, fr_makeg, keep0, callQQ_f, callQQ_t, Nat.reduceBEq, Bool.or_self, Bool.or_false, Bool.or_true, Bool.and_true, Bool.and_false, Bool.true_and, Bool.false_and, Option.isNone_none, Option.isNone_some, Option.isSome_some, Option.isSome_none, den_ret, den_skip, den_label, den_exit, den_block, den_scope, den_condV, condV_bool, ops1_cons, ops1_guarded, guardV_bool, guardV_tup, guardD_0, guardD_s, ops1_nil, seqK_normal, seqK_ret, seqK_exit, blockK_normal, blockK_exit, blockK_ret, loopK_normal, loopK_exit, loopK_ret, finK_normal, finK_ret, opK_some, opA_move, opA_assign, opA_pick, pickA_bool, opA_len, opA_bin, opA_un, opA_ia, opA_load, opA_store, opA_conv, opA_make, opA_append, opA_copy, opA_max, opA_min, opA_slice, opA_call, opA_callq, opA_extract, extA_tup, Option.getD_some, Option.getD_none, setO_some, setO_none, ev_tmp, ev_int, ev_bool, ev_nil, ev_fn, upd_at, Option.map_some, Option.map_none, Option.bind_some, List.map_cons, List.map_nil, List.cons_append, List.nil_append, ↓reduceIte, Nat.reduceEqDiff, Nat.reduceAdd, decide_true, decide_false, Bool.true_eq_false, Bool.false_eq_true, env0, List.getElem?_cons_zero, List.getElem?_cons_succ, len22, lenN22, k_lss, k_leq, k_gtr, k_geq, k_eql, k_neq, ia22, ld31, conv31_40, conv40_31, opA_box, opA_alloc, opA_fa, opA_fd, opA_build, box_agg, dead_t, ld_ptr, ldE_24, ldE_4, ldE_22, st_24, stE_buf, fa_0, fa_1, faE_buf, bd_0, bd_2, bd_2R, fd_1, zero24, Nat.zero_add, e0, e6, e8, e9, e17, e18, q1, ia, ld, sh, pt, c1, madeV_eq, ext_0, ext_1, st_Z, j6]
      exact finish_ct _ _ 6 6 1 _ _ _ _ _ _ _ (by simp only [upd_at, ↓reduceIte, Nat.reduceEqDiff, e6]) (by simp only [upd_at, ↓reduceIte, Nat.reduceEqDiff]) (by simp only [upd_at, ↓reduceIte, Nat.reduceEqDiff]) rfl
    · have pt : (((o.getD 12 0 / 2 ^ 31 : Nat) : Int) == 0) = false := by rw [beq_eq_false_iff_ne]; omega
      have ln := len_own s 13 1 0 13 _ j13
      rw [show ((13 : Nat) : Int) = 13 from rfl] at ln
      have hnot := val_not o hzL
      rw [hzl] at hnot
      have hres : sgn true (val (o.map (4294967295 - ·)) + 1) = logZ op z z' := by
        rw [logZ, ← hzv, unZ, htop, if_neg ht]
        show -((val (o.map (4294967295 - ·)) + 1 : Nat) : Int) = _
        rw [show val (o.map (4294967295 - ·)) + 1 = B ^ 13 - val o by omega]
      simp only [den_seq, den_region, den_regionT, kill_nil, kill_cons, killM_none, killM_some, fr_move, fr_assign, fr_pick, fr_bin, fr_un, fr_conv, fr_extract, fr_load, fr_store, fr_fa, fr_fd, fr_ia, fr_index, fr_slice, fr_build, fr_bs, fr_box, fr_nil, fr_blt, fr_tmp, fr_call, fr_callg, fr_alloc, fr_allocg, fr_make, fr_makeg, keep0, callQQ_f, callQQ_t, Nat.reduceBEq, Bool.or_self, Bool.or_false, Bool.or_true, Bool.and_true, Bool.and_false, Bool.true_and, Bool.false_and, Option.isNone_none, Option.isNone_some, Option.isSome_some, Option.isSome_none, den_ret, den_skip, den_label, den_exit, den_block, den_scope, den_condV, condV_bool, ops1_cons, ops1_guarded, guardV_bool, guardV_tup, guardD_0, guardD_s, ops1_nil, seqK_normal, seqK_ret, seqK_exit, blockK_normal, blockK_exit, blockK_ret, loopK_normal, loopK_exit, loopK_ret, finK_normal, finK_ret, opK_some, opA_move, opA_assign, opA_pick, pickA_bool, opA_len, opA_bin, opA_un, opA_ia, opA_load, opA_store, opA_conv, opA_make, opA_append, opA_copy, opA_max, opA_min, opA_slice, opA_call, opA_callq, opA_extract, extA_tup, Option.getD_some, Option.getD_none, setO_some, setO_none, ev_tmp, ev_int, ev_bool, ev_nil, ev_fn, upd_at, Option.map_some, Option.map_none, Option.bind_some, List.map_cons, List.map_nil, List.cons_append, List.nil_append, ↓reduceIte, Nat.reduceEqDiff, Nat.reduceAdd, decide_true, decide_false, Bool.true_eq_false, Bool.false_eq_true, env0, List.getElem?_cons_zero, List.getElem?_cons_succ, len22, lenN22, k_lss, k_leq, k_gtr, k_geq, k_eql, k_neq, ia22, ld31, conv31_40, conv40_31, opA_box, opA_alloc, opA_fa, opA_fd, opA_build, box_agg, dead_t, ld_ptr, ldE_24, ldE_4, ldE_22, st_24, stE_buf, fa_0, fa_1, faE_buf, bd_0, bd_2, bd_2R, fd_1, zero24, Nat.zero_add, e0, e6, e8, e9, e17, e18, q1, ia, ld, sh, pt, ln, den_loop]
      refine loop_ends (X := Nat) (fun i env s => env 6 = .ptr 6 1 0 ∧ env 8 = .own 13 1 0 13 1 ∧ env 45 = .int .i64 13 ∧ env 46 = .int .i64 (i : Int) ∧ s 13 = ⟨1, .buf (encC (notI o i))⟩ ∧ s 6 = ⟨1, .buf [p, q]⟩ ∧ i ≤ 13) (fun i => 13 - i) (fun _ => (.tree (madeV (logZ op z z')), [[], [], []])) ?_ n 0 _ _ (by omega) ⟨by simp only [upd_at, ↓reduceIte, Nat.reduceEqDiff, e6], by simp only [upd_at, ↓reduceIte, Nat.reduceEqDiff, e8], by simp only [upd_at, ↓reduceIte, Nat.reduceEqDiff], by simp only [upd_at, ↓reduceIte, Nat.reduceEqDiff]; rfl, by rw [notI_0]; exact j13, j6, by omega⟩
      clear e0 e6 e8 e9 e17 e18 j13 j15 j6 ia ld sh ln ih hxk
      intro k i hxk ih env s ⟨e6, e8, e45, e46, j13, j6, hi⟩
      by_cases hp : i = 13
      · subst hp
        have q1 : ¬ (((13 : Nat) : Int) < 13) := by omega
        have hna := notI_all o
        rw [hzl] at hna
        rw [hna] at j13
        have a1 := fun D => add_own1 n (d + 3) hn D s 13 1 (o.map (4294967295 - ·)) 13 j13 (by rw [List.length_map, hzl]) (by omega) (limbs_not o)
        have hfit : val (o.map (4294967295 - ·)) + 1 < B ^ 14 := by
          have : B ^ 13 * 4 ≤ B ^ 14 := by rw [show (14 : Nat) = 13 + 1 from rfl, Nat.pow_succ]; exact Nat.mul_le_mul_left _ (by decide)
          omega
        have c1 := fun D s => cMade n (d + 3) hn D s (num_R _ 14 (by decide) hfit) true
        rw [hres] at c1
        simp only [den_seq, den_region, den_regionT, kill_nil, kill_cons, killM_none, killM_some, fr_move, fr_assign, fr_pick, fr_bin, fr_un, fr_conv, fr_extract, fr_load, fr_store, fr_fa, fr_fd, fr_ia, fr_index, fr_slice, fr_build, fr_bs, fr_box, fr_nil, fr_blt, fr_tmp, fr_call, fr_callg, fr_alloc, fr_allocg, fr_make, fr_makeg, keep0, callQQ_f, callQQ_t, Nat.reduceBEq, Bool.or_self, Bool.or_false, Bool.or_true, Bool.and_true, Bool.and_false, Bool.true_and, Bool.false_and, Option.isNone_none, Option.isNone_some, Option.isSome_some, Option.isSome_none, den_ret, den_skip, den_label, den_exit, den_block, den_scope, den_condV, condV_bool, ops1_cons, ops1_guarded, guardV_bool, guardV_tup, guardD_0, guardD_s, ops1_nil, seqK_normal, seqK_ret, seqK_exit, blockK_normal, blockK_exit, blockK_ret, loopK_normal, loopK_exit, loopK_ret, finK_normal, finK_ret, opK_some, opA_move, opA_assign, opA_pick, pickA_bool, opA_len, opA_bin, opA_un, opA_ia, opA_load, opA_store, opA_conv, opA_make, opA_append, opA_copy, opA_max, opA_min, opA_slice, opA_call, opA_callq, opA_extract, extA_tup, Option.getD_some, Option.getD_none, setO_some, setO_none, ev_tmp, ev_int, ev_bool, ev_nil, ev_fn, upd_at, Option.map_some, Option.map_none, Option.bind_some, List.map_cons, List.map_nil, List.cons_append, List.nil_append, ↓reduceIte, Nat.reduceEqDiff, Nat.reduceAdd, decide_true, decide_false, Bool.true_eq_false, Bool.false_eq_true, env0, List.getElem?_cons_zero, List.getElem?_cons_succ, len22, lenN22, k_lss, k_leq, k_gtr, k_geq, k_eql, k_neq, ia22, ld31, conv31_40, conv40_31, opA_box, opA_alloc, opA_fa, opA_fd, opA_build, box_agg, dead_t, ld_ptr, ldE_24, ldE_4, ldE_22, st_24, stE_buf, fa_0, fa_1, faE_buf, bd_0, bd_2, bd_2R, fd_1, zero24, Nat.zero_add, e6, e8, e45, e46, q1, opA_one, one22_int, a1, c1, madeV_eq, ext_0, ext_1, st_Z, j6]
        exact finish_ct _ _ 6 6 1 _ _ _ _ _ _ _ (by simp only [upd_at, ↓reduceIte, Nat.reduceEqDiff, e6]) (by simp only [upd_at, ↓reduceIte, Nat.reduceEqDiff]) (by simp only [upd_at, ↓reduceIte, Nat.reduceEqDiff]) rfl
      · have q1 : (i : Int) < 13 := by omega
        have q2 : (0 : Int) ≤ (i : Int) := by omega
        have hol : (notI o i).length = 13 := by rw [notI_len, hzl]
        have ia := ia_own s 13 1 _ 13 .i64 (i : Int) j13 q2 q1
        rw [Int.toNat_natCast] at ia
        have ld := ld_own s 13 1 (notI o i) i j13 (by omega)
        rw [notI_get o i (by omega)] at ld
        have nt := s_not (o.getD i 0) (getD_lt o hzL i)
        have st := st31 s 13 1 _ i (4294967295 - o.getD i 0) j13 (by omega)
        rw [notI_set o i (by omega)] at st
        have f4 := i_add Tryd.prog 3 (i : Int) 1 (by omega) (by omega)
        simp only [den_seq, den_region, den_regionT, kill_nil, kill_cons, killM_none, killM_some, fr_move, fr_assign, fr_pick, fr_bin, fr_un, fr_conv, fr_extract, fr_load, fr_store, fr_fa, fr_fd, fr_ia, fr_index, fr_slice, fr_build, fr_bs, fr_box, fr_nil, fr_blt, fr_tmp, fr_call, fr_callg, fr_alloc, fr_allocg, fr_make, fr_makeg, keep0, callQQ_f, callQQ_t, Nat.reduceBEq, Bool.or_self, Bool.or_false, Bool.or_true, Bool.and_true, Bool.and_false, Bool.true_and, Bool.false_and, Option.isNone_none, Option.isNone_some, Option.isSome_some, Option.isSome_none, den_ret, den_skip, den_label, den_exit, den_block, den_scope, den_condV, condV_bool, ops1_cons, ops1_guarded, guardV_bool, guardV_tup, guardD_0, guardD_s, ops1_nil, seqK_normal, seqK_ret, seqK_exit, blockK_normal, blockK_exit, blockK_ret, loopK_normal, loopK_exit, loopK_ret, finK_normal, finK_ret, opK_some, opA_move, opA_assign, opA_pick, pickA_bool, opA_len, opA_bin, opA_un, opA_ia, opA_load, opA_store, opA_conv, opA_make, opA_append, opA_copy, opA_max, opA_min, opA_slice, opA_call, opA_callq, opA_extract, extA_tup, Option.getD_some, Option.getD_none, setO_some, setO_none, ev_tmp, ev_int, ev_bool, ev_nil, ev_fn, upd_at, Option.map_some, Option.map_none, Option.bind_some, List.map_cons, List.map_nil, List.cons_append, List.nil_append, ↓reduceIte, Nat.reduceEqDiff, Nat.reduceAdd, decide_true, decide_false, Bool.true_eq_false, Bool.false_eq_true, env0, List.getElem?_cons_zero, List.getElem?_cons_succ, len22, lenN22, k_lss, k_leq, k_gtr, k_geq, k_eql, k_neq, ia22, ld31, conv31_40, conv40_31, opA_box, opA_alloc, opA_fa, opA_fd, opA_build, box_agg, dead_t, ld_ptr, ldE_24, ldE_4, ldE_22, st_24, stE_buf, fa_0, fa_1, faE_buf, bd_0, bd_2, bd_2R, fd_1, zero24, Nat.zero_add, e6, e8, e45, e46, q1, ia, ld, nt, st, f4]
        refine ih (i + 1) _ _ (by omega) rfl ⟨?_, ?_, ?_, ?_, ?_, ?_, by omega⟩
        · simp only [upd_at, ↓reduceIte, Nat.reduceEqDiff, e6]
        · simp only [upd_at, ↓reduceIte, Nat.reduceEqDiff, e8]
        · simp only [upd_at, ↓reduceIte, Nat.reduceEqDiff, e45]
        · simp only [upd_at, ↓reduceIte, Nat.reduceEqDiff]; rfl
        · simp only [upd_at, ↓reduceIte, Nat.reduceEqDiff]
        · simp only [upd_at, ↓reduceIte, Nat.reduceEqDiff, j6]
  · have q1 : (i : Int) < 13 := by omega
    have q2 : (0 : Int) ≤ (i : Int) := by omega
    have hol : (zipI op x y i).length = 13 := by rw [zipI_len op x y i (by omega), hxl]
    have ia := ia_own s 13 1 _ 13 .i64 (i : Int) j13 q2 q1
    rw [Int.toNat_natCast] at ia
    have ld := ld_own s 13 1 (zipI op x y i) i j13 (by omega)
    rw [zipI_get op x y i (by omega) (by omega)] at ld
    have ia2 := ia_own s 15 1 _ 13 .i64 (i : Int) j15 q2 q1
    rw [Int.toNat_natCast] at ia2
    have ld2 := ld_own s 15 1 y i j15 (by omega)
    have qw := qWord n (d + 4) op (x.getD i 0) (y.getD i 0) (getD_lt x hx i) (getD_lt y hy i)
    have st := st31 s 13 1 _ i (wordN op (x.getD i 0) (y.getD i 0)) j13 (by omega)
    rw [zipI_set op x y i (by omega) (by omega)] at st
    have f4 := i_add Tryd.prog 3 (i : Int) 1 (by omega) (by omega)
    simp only [den_seq, den_region, den_regionT, kill_nil, kill_cons, killM_none, killM_some, fr_move, fr_assign, fr_pick, fr_bin, fr_un, fr_conv, fr_extract, fr_load, fr_store, fr_fa, fr_fd, fr_ia, fr_index, fr_slice, fr_build, fr_bs, fr_box, fr_nil, fr_blt, fr_tmp, fr_call, fr_callg, fr_alloc, fr_allocg, fr_make, fr_makeg, keep0, callQQ_f, callQQ_t, Nat.reduceBEq, Bool.or_self, Bool.or_false, Bool.or_true, Bool.and_true, Bool.and_false, Bool.true_and, Bool.false_and, Option.isNone_none, Option.isNone_some, Option.isSome_some, Option.isSome_none, den_ret, den_skip, den_label, den_exit, den_block, den_scope, den_condV, condV_bool, ops1_cons, ops1_guarded, guardV_bool, guardV_tup, guardD_0, guardD_s, ops1_nil, seqK_normal, seqK_ret, seqK_exit, blockK_normal, blockK_exit, blockK_ret, loopK_normal, loopK_exit, loopK_ret, finK_normal, finK_ret, opK_some, opA_move, opA_assign, opA_pick, pickA_bool, opA_len, opA_bin, opA_un, opA_ia, opA_load, opA_store, opA_conv, opA_make, opA_append, opA_copy, opA_max, opA_min, opA_slice, opA_call, opA_callq, opA_extract, extA_tup, Option.getD_some, Option.getD_none, setO_some, setO_none, ev_tmp, ev_int, ev_bool, ev_nil, ev_fn, upd_at, Option.map_some, Option.map_none, Option.bind_some, List.map_cons, List.map_nil, List.cons_append, List.nil_append, ↓reduceIte, Nat.reduceEqDiff, Nat.reduceAdd, decide_true, decide_false, Bool.true_eq_false, Bool.false_eq_true, env0, List.getElem?_cons_zero, List.getElem?_cons_succ, len22, lenN22, k_lss, k_leq, k_gtr, k_geq, k_eql, k_neq, ia22, ld31, conv31_40, conv40_31, opA_box, opA_alloc, opA_fa, opA_fd, opA_build, box_agg, dead_t, ld_ptr, ldE_24, ldE_4, ldE_22, st_24, stE_buf, fa_0, fa_1, faE_buf, bd_0, bd_2, bd_2R, fd_1, zero24, Nat.zero_add, e0, e6, e8, e9, e17, e18, q1, ia, ld, ia2, ld2, qw, st, f4]
    refine ih (i + 1) _ _ (by omega) rfl ⟨?_, ?_, ?_, ?_, ?_, ?_, ?_, ?_, ?_, by omega⟩
    · simp only [upd_at, ↓reduceIte, Nat.reduceEqDiff, e0]
    · simp only [upd_at, ↓reduceIte, Nat.reduceEqDiff, e6]
    · simp only [upd_at, ↓reduceIte, Nat.reduceEqDiff, e8]
    · simp only [upd_at, ↓reduceIte, Nat.reduceEqDiff, e9]
    · simp only [upd_at, ↓reduceIte, Nat.reduceEqDiff, e17]
    · simp only [upd_at, ↓reduceIte, Nat.reduceEqDiff]; rfl
    · simp only [upd_at, ↓reduceIte, Nat.reduceEqDiff]
    · simp only [upd_at, ↓reduceIte, Nat.reduceEqDiff, j15]
    · simp only [upd_at, ↓reduceIte, Nat.reduceEqDiff, j6]
end Go.Ab
