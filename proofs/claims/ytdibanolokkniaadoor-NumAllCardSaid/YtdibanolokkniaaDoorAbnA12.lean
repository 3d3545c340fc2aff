/- And, or, exclusive or of limbs; a number's bits. Conditions: numbers that are shown. -/
import Derived.Test.YtdibanolokkniaaDoorAbnA7a
import Derived.Test.YtdibanolokkniaaDoorAbMM
namespace Go.Ab
open Go.Proofs
set_option maxRecDepth 100000
set_option linter.unusedSimpArgs false

theorem s_and (P : Program) (t : TypeId) (a b : Nat) (h : a < 4294967296) (h' : b < 4294967296) : binA P .and t (.int .u32 (a : Int)) (.int .u32 (b : Int)) = some (.int .u32 (((a &&& b) : Nat) : Int)) := by
  have h1 : (BitVec.ofInt 32 (a : Int) &&& BitVec.ofInt 32 (b : Int)).toNat = a &&& b := by
    rw [BitVec.toNat_and, BitVec.ofInt_natCast, BitVec.ofInt_natCast, BitVec.toNat_ofNat, BitVec.toNat_ofNat, Nat.mod_eq_of_lt h, Nat.mod_eq_of_lt h']
  have h2 : a &&& b ≤ a := Nat.and_le_left
  show some (AV.int .u32 (IntKind.u32.wrap ((BitVec.ofInt 32 (a : Int) &&& BitVec.ofInt 32 (b : Int)).toNat : Int))) = _
  rw [h1]
  simp only [IntKind.wrap, IntKind.bits, IntKind.signed]
  congr 2
  generalize a &&& b = c at *
  simp; omega
theorem s_xor (P : Program) (t : TypeId) (a b : Nat) (h : a < 4294967296) (h' : b < 4294967296) : binA P .xor t (.int .u32 (a : Int)) (.int .u32 (b : Int)) = some (.int .u32 (((a ^^^ b) : Nat) : Int)) := by
  have h1 : (BitVec.ofInt 32 (a : Int) ^^^ BitVec.ofInt 32 (b : Int)).toNat = a ^^^ b := by
    rw [BitVec.toNat_xor, BitVec.ofInt_natCast, BitVec.ofInt_natCast, BitVec.toNat_ofNat, BitVec.toNat_ofNat, Nat.mod_eq_of_lt h, Nat.mod_eq_of_lt h']
  have h2 : (a ^^^ b) < 2 ^ 32 := Nat.xor_lt_two_pow h h'
  show some (AV.int .u32 (IntKind.u32.wrap ((BitVec.ofInt 32 (a : Int) ^^^ BitVec.ofInt 32 (b : Int)).toNat : Int))) = _
  rw [h1]
  simp only [IntKind.wrap, IntKind.bits, IntKind.signed]
  congr 2
  generalize a ^^^ b = c at *
  simp; omega
theorem s_not (a : Nat) (h : a < 4294967296) : unA .xor (.int .u32 (a : Int)) = some (.int .u32 ((4294967295 - a : Nat) : Int)) := by
  have h1 : (BitVec.ofInt 32 4294967295 ^^^ BitVec.ofInt 32 (a : Int)).toNat = 4294967295 - a := by
    have e : BitVec.ofInt 32 4294967295 = BitVec.allOnes 32 := by decide
    rw [e, BitVec.allOnes_xor, BitVec.toNat_not, BitVec.ofInt_natCast, BitVec.toNat_ofNat, Nat.mod_eq_of_lt h]
  show some (AV.int .u32 (IntKind.u32.wrap ((BitVec.ofInt 32 4294967295 ^^^ BitVec.ofInt 32 (a : Int)).toNat : Int))) = _
  rw [h1]
  simp only [IntKind.wrap, IntKind.bits, IntKind.signed]
  congr 2
  simp; omega
theorem finish_u (k : Bool) (xs : List Arg) (t : Nat) (env : Env) (s : St) (z : Int) (os : List (List AV)) (hv : env t = .int .u32 z) (ho : outsA s 0 xs = some os) : finishP Tryd.prog k xs #[.tmp t] env s = some (.tree (.int .u32 z), os) :=
  finish_tree _ _ _ _ _ _ (.int .u32 z) _ _ hv rfl ho
theorem word_eq (n d op a b : Nat) (ha : a < 4294967296) (hb : b < 4294967296) : evalFn Tryd.prog cfg0 n (d+1) 67 [.tree (.int .i64 (op : Int)), .tree (.int .u32 (a : Int)), .tree (.int .u32 (b : Int))] = some (.tree (.int .u32 ((wordN op a b : Nat) : Int)), [[], [], []]) := by
  rw [evalFn_go _ Tryd.func67 (by unfold Tryd.f67; rfl) (by unfold Tryd.f67; decide) (Nat.le_of_ble_eq_true (by unfold Tryd.f67; rfl)) (by kernel_rfl)]
  have e1 := s_and Tryd.prog 48 a b ha hb
  have e2 := s_or Tryd.prog 48 a b ha hb
  have e3 := s_xor Tryd.prog 48 a b ha hb
  unfold wordN
  by_cases h6 : op = 6
  · have p : ((op : Int) == 6) = true := by rw [h6]; rfl
    rw [if_pos h6]
    simp only [den_seq, den_region, den_regionT, kill_nil, kill_cons, killM_none, killM_some, fr_move, fr_assign, fr_pick, fr_bin, fr_un, fr_conv, fr_extract, fr_load, fr_store, fr_fa, fr_fd, fr_ia, fr_index, fr_slice, fr_build, fr_bs, fr_box, fr_nil, fr_blt, fr_tmp, fr_call, fr_callg, fr_alloc, fr_allocg, fr_make, fr_makeg, keep0, callQQ_f, callQQ_t, Nat.reduceBEq, Bool.or_self, Bool.or_false, Bool.or_true, Bool.and_true, Bool.and_false, Bool.true_and, Bool.false_and, Option.isNone_none, Option.isNone_some, Option.isSome_some, Option.isSome_none, den_ret, den_skip, den_label, den_exit, den_block, den_scope, den_condV, condV_bool, ops1_cons, ops1_guarded, guardV_bool, guardV_tup, guardD_0, guardD_s, ops1_nil, seqK_normal, seqK_ret, seqK_exit, blockK_normal, blockK_exit, blockK_ret, loopK_normal, loopK_exit, loopK_ret, finK_normal, finK_ret, opK_some, opA_move, opA_assign, opA_pick, pickA_bool, opA_len, opA_bin, opA_un, opA_ia, opA_load, opA_store, opA_conv, opA_make, opA_append, opA_copy, opA_max, opA_min, opA_slice, opA_call, opA_callq, opA_extract, extA_tup, Option.getD_some, Option.getD_none, setO_some, setO_none, ev_tmp, ev_int, ev_bool, ev_nil, ev_fn, upd_at, Option.map_some, Option.map_none, Option.bind_some, List.map_cons, List.map_nil, List.cons_append, List.nil_append, ↓reduceIte, Nat.reduceEqDiff, Nat.reduceAdd, decide_true, decide_false, Bool.true_eq_false, Bool.false_eq_true, env0, List.getElem?_cons_zero, List.getElem?_cons_succ, len22, lenN22, k_lss, k_leq, k_gtr, k_geq, k_eql, k_neq, ia22, ld31, conv31_40, conv40_31, p, e1]
    exact finish_u _ _ _ _ _ _ _ (by simp only [upd_at, ↓reduceIte]) rfl
  · have p : ((op : Int) == 6) = false := by rw [beq_eq_false_iff_ne]; omega
    rw [if_neg h6]
    by_cases h7 : op = 7
    · have p2 : ((op : Int) == 7) = true := by rw [h7]; rfl
      rw [if_pos h7]
      simp only [den_seq, den_region, den_regionT, kill_nil, kill_cons, killM_none, killM_some, fr_move, fr_assign, fr_pick, fr_bin, fr_un, fr_conv, fr_extract, fr_load, fr_store, fr_fa, fr_fd, fr_ia, fr_index, fr_slice, fr_build, fr_bs, fr_box, fr_nil, fr_blt, fr_tmp, fr_call, fr_callg, fr_alloc, fr_allocg, fr_make, fr_makeg, keep0, callQQ_f, callQQ_t, Nat.reduceBEq, Bool.or_self, Bool.or_false, Bool.or_true, Bool.and_true, Bool.and_false, Bool.true_and, Bool.false_and, Option.isNone_none, Option.isNone_some, Option.isSome_some, Option.isSome_none, den_ret, den_skip, den_label, den_exit, den_block, den_scope, den_condV, condV_bool, ops1_cons, ops1_guarded, guardV_bool, guardV_tup, guardD_0, guardD_s, ops1_nil, seqK_normal, seqK_ret, seqK_exit, blockK_normal, blockK_exit, blockK_ret, loopK_normal, loopK_exit, loopK_ret, finK_normal, finK_ret, opK_some, opA_move, opA_assign, opA_pick, pickA_bool, opA_len, opA_bin, opA_un, opA_ia, opA_load, opA_store, opA_conv, opA_make, opA_append, opA_copy, opA_max, opA_min, opA_slice, opA_call, opA_callq, opA_extract, extA_tup, Option.getD_some, Option.getD_none, setO_some, setO_none, ev_tmp, ev_int, ev_bool, ev_nil, ev_fn, upd_at, Option.map_some, Option.map_none, Option.bind_some, List.map_cons, List.map_nil, List.cons_append, List.nil_append, ↓reduceIte, Nat.reduceEqDiff, Nat.reduceAdd, decide_true, decide_false, Bool.true_eq_false, Bool.false_eq_true, env0, List.getElem?_cons_zero, List.getElem?_cons_succ, len22, lenN22, k_lss, k_leq, k_gtr, k_geq, k_eql, k_neq, ia22, ld31, conv31_40, conv40_31, p, p2, e2]
      exact finish_u _ _ _ _ _ _ _ (by simp only [upd_at, ↓reduceIte]) rfl
    · have p2 : ((op : Int) == 7) = false := by rw [beq_eq_false_iff_ne]; omega
      rw [if_neg h7]
      simp only [den_seq, den_region, den_regionT, kill_nil, kill_cons, killM_none, killM_some, fr_move, fr_assign, fr_pick, fr_bin, fr_un, fr_conv, fr_extract, fr_load, fr_store, fr_fa, fr_fd, fr_ia, fr_index, fr_slice, fr_build, fr_bs, fr_box, fr_nil, fr_blt, fr_tmp, fr_call, fr_callg, fr_alloc, fr_allocg, fr_make, fr_makeg, keep0, callQQ_f, callQQ_t, Nat.reduceBEq, Bool.or_self, Bool.or_false, Bool.or_true, Bool.and_true, Bool.and_false, Bool.true_and, Bool.false_and, Option.isNone_none, Option.isNone_some, Option.isSome_some, Option.isSome_none, den_ret, den_skip, den_label, den_exit, den_block, den_scope, den_condV, condV_bool, ops1_cons, ops1_guarded, guardV_bool, guardV_tup, guardD_0, guardD_s, ops1_nil, seqK_normal, seqK_ret, seqK_exit, blockK_normal, blockK_exit, blockK_ret, loopK_normal, loopK_exit, loopK_ret, finK_normal, finK_ret, opK_some, opA_move, opA_assign, opA_pick, pickA_bool, opA_len, opA_bin, opA_un, opA_ia, opA_load, opA_store, opA_conv, opA_make, opA_append, opA_copy, opA_max, opA_min, opA_slice, opA_call, opA_callq, opA_extract, extA_tup, Option.getD_some, Option.getD_none, setO_some, setO_none, ev_tmp, ev_int, ev_bool, ev_nil, ev_fn, upd_at, Option.map_some, Option.map_none, Option.bind_some, List.map_cons, List.map_nil, List.cons_append, List.nil_append, ↓reduceIte, Nat.reduceEqDiff, Nat.reduceAdd, decide_true, decide_false, Bool.true_eq_false, Bool.false_eq_true, env0, List.getElem?_cons_zero, List.getElem?_cons_succ, len22, lenN22, k_lss, k_leq, k_gtr, k_geq, k_eql, k_neq, ia22, ld31, conv31_40, conv40_31, p, p2, e3]
      exact finish_u _ _ _ _ _ _ _ (by simp only [upd_at, ↓reduceIte]) rfl
theorem qWord (n d op a b : Nat) (ha : a < 4294967296) (hb : b < 4294967296) : callQ (evalFn Tryd.prog cfg0 n (d+1)) 67 [.int .i64 (op : Int), .int .u32 (a : Int), .int .u32 (b : Int)] = some (.int .u32 ((wordN op a b : Nat) : Int)) :=
  callQ_trees rfl (word_eq n d op a b ha hb)

/-! ### bits -/
theorem copy_L (s : St) (p t : Nat) (m l : List Nat) (b : Gk) (hs : s p = ⟨t, .buf (encC m)⟩) (len : Nat) (hm : m.length = len) (hl : l.length ≤ len) : copyA Tryd.prog #[22, 22] s (.own p t 0 len 1) (encL b l) =
    some (.int .i64 (l.length : Int), upd s p ⟨t, .buf (encC (l ++ m.drop l.length))⟩) := by
  have e1 : (#[22, 22] : Array TypeId)[0]? = some 22 := rfl
  have e2 : (#[22, 22] : Array TypeId)[1]? = some 22 := rfl
  subst hm
  have hmin : Nat.min l.length m.length = l.length := Nat.min_eq_left hl
  simp only [copyA, e1, e2, Option.map_some, tk22, esz31, Option.bind_some, moreA, encL, encC_len, Nat.mul_one, if_true, hs, hmin]
  rw [if_pos ⟨trivial, trivial, by omega⟩]
  simp only [encC_take, splice_enc, List.take_zero, List.nil_append, Nat.zero_add, List.take_of_length_le (Nat.le_refl l.length)]
theorem copy_own (s : St) (p t p' t' : Nat) (m l : List Nat) (hs : s p = ⟨t, .buf (encC m)⟩) (hs' : s p' = ⟨t', .buf (encC l)⟩) (len : Nat) (hm : m.length = len) (hl : l.length = len) : copyA Tryd.prog #[22, 22] s (.own p t 0 len 1) (.own p' t' 0 len 1) =
    some (.int .i64 (len : Int), upd s p ⟨t, .buf (encC l)⟩) := by
  have e1 : (#[22, 22] : Array TypeId)[0]? = some 22 := rfl
  have e2 : (#[22, 22] : Array TypeId)[1]? = some 22 := rfl
  subst hm
  have hmin : Nat.min m.length m.length = m.length := Nat.min_eq_left (Nat.le_refl _)
  simp only [copyA, e1, e2, Option.map_some, tk22, esz31, Option.bind_some, moreA, cellsAt_E, hs', cellsE_buf, encC_len, Nat.mul_one, if_true, hs, Nat.zero_add, hl, Nat.le_refl, and_self, List.drop_zero, encC_take, hmin, splice_enc, List.take_zero, List.nil_append]
  have e3 : (l.take m.length).take m.length = l := by rw [List.take_of_length_le (by rw [List.length_take]; omega), List.take_of_length_le (by omega)]
  rw [e3, hl, List.drop_of_length_le (Nat.le_refl _), List.append_nil]
theorem len_own (s : St) (p t off len : Nat) (xs : List AV) (hs : s p = ⟨t, .buf xs⟩) : lenA Tryd.prog 22 s (.own p t off len 1) = some (.int .i64 (len : Int)) := by
  simp [lenA, tk22, live, cellsAt_E, hs, cellsE_buf]
/-- The bits, as a list of limbs. -/
def tcL (z : Int) : List Nat := if z < 0 then (digs (z.natAbs - 1) ++ List.replicate (13 - (digs (z.natAbs - 1)).length) 0).map (4294967295 - ·) else digs z.natAbs ++ List.replicate (13 - (digs z.natAbs).length) 0
theorem limbs_rep (k : Nat) : Limbs (List.replicate k 0) := fun x hx => by rw [List.eq_of_mem_replicate hx]; decide
theorem pad_val (v : Nat) (k : Nat) : val (digs v ++ List.replicate k 0) = v := by rw [val_zeros, val_digs]
theorem tcL_ok (z : Int) (h : z.natAbs < B ^ 12) : Limbs (tcL z) ∧ (tcL z).length = 13 ∧ val (tcL z) = tcZ z := by
  have hd := digs_len z.natAbs 12 h
  have hd1 := digs_len (z.natAbs - 1) 12 (by omega)
  unfold tcL tcZ
  by_cases hz : z < 0
  · rw [if_pos hz, if_pos hz]
    have hL : Limbs (digs (z.natAbs - 1) ++ List.replicate (13 - (digs (z.natAbs - 1)).length) 0) := (limbs_digs _).app (limbs_rep _)
    have hl : (digs (z.natAbs - 1) ++ List.replicate (13 - (digs (z.natAbs - 1)).length) 0).length = 13 := by
      rw [List.length_append, List.length_replicate]; omega
    refine ⟨limbs_not _, by rw [List.length_map, hl], ?_⟩
    have hv := val_not _ hL
    rw [hl, pad_val] at hv
    omega
  · rw [if_neg hz, if_neg hz]
    exact ⟨(limbs_digs _).app (limbs_rep _), by rw [List.length_append, List.length_replicate]; omega, pad_val _ _⟩
theorem finish_own (xs : List Arg) (t p e len : Nat) (l : List Nat) (env : Env) (s : St) (os : List (List AV)) (hv : env t = .own p e 0 len 1) (hs : s p = ⟨e, .buf (encC l)⟩) (hp : xs.length ≤ p) (hl : l.length = len) (ho : outsA s 0 xs = some os) :
    finishP Tryd.prog true xs #[.tmp t] env s = some (.own (encC l) len 1, os) := by
  have hc : len * 1 ≤ (encC l).length := by rw [encC_len]; omega
  simp only [finishP_t1, finish, hv, finish1, if_true, hs, hp, hc, and_self, Option.bind_some, ho, Option.map_some]
/-- Every limb turned, from a place on. -/
def notI (m : List Nat) (i : Nat) : List Nat := (m.take i).map (4294967295 - ·) ++ m.drop i
theorem notI_len (m : List Nat) (i : Nat) : (notI m i).length = m.length := by
  simp only [notI, List.length_append, List.length_map, List.length_take, List.length_drop]; omega
theorem notI_get (m : List Nat) (i : Nat) (h : i < m.length) : (notI m i).getD i 0 = m.getD i 0 := by
  have hl : ((m.take i).map (4294967295 - ·)).length = i := by rw [List.length_map, List.length_take]; omega
  rw [notI, List.getD_eq_getElem?_getD, List.getD_eq_getElem?_getD, List.getElem?_append_right (by omega), hl, Nat.sub_self, List.getElem?_drop, Nat.add_zero]
theorem notI_set (m : List Nat) (i : Nat) (h : i < m.length) : (notI m i).set i (4294967295 - m.getD i 0) = notI m (i + 1) := by
  have hl : ((m.take i).map (4294967295 - ·)).length = i := by rw [List.length_map, List.length_take]; omega
  rw [notI, List.set_append_right _ _ (by omega), hl, Nat.sub_self]
  have hd : m.drop i = m.getD i 0 :: m.drop (i + 1) := by
    rw [List.drop_eq_getElem_cons h]
    simp [List.getD_eq_getElem?_getD, h]
  rw [hd, List.set_cons_zero, notI, List.take_succ_eq_append_getElem h, List.map_append, List.append_assoc]
  simp [List.getD_eq_getElem?_getD, h]
theorem notI_0 (m : List Nat) : notI m 0 = m := by simp [notI]
theorem notI_all (m : List Nat) : notI m m.length = m.map (4294967295 - ·) := by simp [notI]
theorem notI_limbs (m : List Nat) (hm : Limbs m) (i : Nat) : Limbs (notI m i) := (limbs_not _).app (hm.drop i)
end Go.Ab
