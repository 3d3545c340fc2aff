/- What the program's Len computes. Conditions: limbs in range, not too many. -/
import Derived.Test.YtlmffjpfjbhliaaAbL6
import Derived.Test.YtlmffjpfjbhliaaAbM4
namespace Go.Ab
open Go.Proofs
set_option maxRecDepth 100000
set_option linter.unusedSimpArgs false

theorem tk5 : tkOf Try.prog 5 = .int .u8 := by kernel_rfl
theorem tk9 : tkOf Try.prog 9 = .str := by kernel_rfl
theorem s_shr (P : Program) (t : TypeId) (a : Nat) (k : IntKind) (z : Int) (h : 0 ≤ z) (h' : z ≤ 32) : binA P .shr t (.int .u32 (a : Int)) (.int k z) = some (.int .u32 ((a / 2 ^ z.toNat : Nat) : Int)) := by
  simp only [binA, shA, if_neg (Int.not_lt.mpr h), IntKind.bits]
  rw [Nat.min_eq_left (by omega)]
  congr 2
  rw [Int.fdiv_eq_ediv_of_nonneg _ (by exact Int.le_of_lt (Int.pow_pos (by decide)))]
  simp
theorem conv31_5 (s : St) (x : Nat) (h : x < 256) : convA Try.prog 31 5 s (.int .u32 (x : Int)) = some (.int .u8 (x : Int)) := by
  simp only [convA, tk31, tk5, IntKind.wrap, IntKind.bits, IntKind.signed]
  congr 2
  simp; omega
theorem conv5_3 (s : St) (x : Nat) (h : x < 256) : convA Try.prog 5 3 s (.int .u8 (x : Int)) = some (.int .i64 (x : Int)) := by
  simp only [convA, tk5, tk3]
  rw [i64_wrap _ (by omega) (by omega)]
/-- A table of how many bits a byte has. -/
def isTab (l : List UInt8) : Bool := decide (l.length = 256) && (List.range 256).all fun i => if i = 0 then decide ((l.getD i 0).toNat = 0) else decide ((l.getD i 0).toNat ≠ 0 ∧ 2 ^ ((l.getD i 0).toNat - 1) ≤ i ∧ i < 2 ^ ((l.getD i 0).toNat))
theorem tab9 (l : List UInt8) (h : isTab l = true) (k : IntKind) (x : Nat) (hx : x < 256) : indexA Try.prog 9 (.str l) (.int k (x : Int)) = some (.int .u8 ((blen x : Nat) : Int)) := by
  simp only [isTab, Bool.and_eq_true, decide_eq_true_eq, List.all_eq_true, List.mem_range] at h
  obtain ⟨hl, hb⟩ := h
  have := hb x hx
  simp only [indexA, tk9, hl, Int.toNat_natCast]
  rw [if_pos (by omega)]
  congr 3
  by_cases h0 : x = 0
  · subst h0
    simpa [blen_0] using this
  · rw [if_neg h0, decide_eq_true_eq] at this
    obtain ⟨h1, h2, h3⟩ := this
    obtain ⟨j, hj⟩ : ∃ j, (l.getD x 0).toNat = j + 1 := ⟨(l.getD x 0).toNat - 1, by omega⟩
    rw [hj] at h2 h3 ⊢
    rw [blen_of x j (by simpa using h2) h3]
theorem ev_str (env : Env) (b : ByteArray) : ev env (.const (.string b)) = .str b.data.toList := rfl

theorem len32_eq (n d : Nat) (x : Nat) (hx : x < 4294967296) : evalFn Try.prog cfg0 n (d+1) 34 [.tree (.int .u32 (x : Int))] = some (.tree (.int .i64 ((blen x : Nat) : Int)), [[]]) := by
  rw [evalFn_go _ Try.func34 (by unfold Try.f34; rfl) (by unfold Try.f34; decide) (Nat.le_of_ble_eq_true (by unfold Try.f34; rfl)) (by kernel_rfl)]
  have hb : ∀ y, y < 256 → blen y < 256 := fun y hy => by have := blen_le y 8 (by omega); omega
  by_cases h1 : x ≥ 65536
  · have p1 : (x : Int) ≥ 65536 := by omega
    have e1 := s_shr Try.prog 31 x .u64 16 (by decide) (by decide)
    rw [show (2 : Nat) ^ (16 : Int).toNat = 65536 from rfl] at e1
    have hb1 := blen_down x 16 (by omega)
    rw [show (2 : Nat) ^ 16 = 65536 from rfl] at hb1
    have hy : x / 65536 < 65536 := by omega
    generalize x / 65536 = y at *
    by_cases h2 : y ≥ 256
    · have p2 : (y : Int) ≥ 256 := by omega
      have e2 := s_shr Try.prog 31 y .u64 8 (by decide) (by decide)
      rw [show (2 : Nat) ^ (8 : Int).toNat = 256 from rfl] at e2
      have hb2 := blen_down y 8 (by omega)
      rw [show (2 : Nat) ^ 8 = 256 from rfl] at hb2
      have hz : y / 256 < 256 := by omega
      generalize y / 256 = z at *
      have e3 := i_add Try.prog 3 (16 : Int) 8 (by decide) (by decide)
      have hbz := hb z hz
      have e4 := i_add Try.prog 3 (16 + 8 : Int) (blen z : Int) (by omega) (by omega)
      simp only [den_seq, den_region, den_ret, den_skip, den_label, den_exit, den_block, den_scope, den_condV, condV_bool, ops1_cons, ops1_guarded, guardV_bool, guardV_tup, guardD_0, guardD_s, ops1_nil, seqK_normal, seqK_ret, seqK_exit, blockK_normal, blockK_exit, blockK_ret, loopK_normal, loopK_exit, loopK_ret, finK_normal, finK_ret, opK_some, opA_move, opA_assign, opA_pick, pickA_bool, opA_len, opA_bin, opA_un, opA_ia, opA_load, opA_store, opA_conv, opA_make, opA_append, opA_copy, opA_max, opA_min, opA_slice, opA_call, opA_callq, opA_extract, extA_tup, Option.getD_some, Option.getD_none, setO_some, setO_none, ev_tmp, ev_int, ev_bool, ev_nil, ev_fn, upd_at, Option.map_some, Option.map_none, Option.bind_some, List.map_cons, List.map_nil, List.cons_append, List.nil_append, reduceIte, Nat.reduceEqDiff, Nat.reduceAdd, decide_true, decide_false, Bool.true_eq_false, Bool.false_eq_true, env0, List.getElem?_cons_zero, List.getElem?_cons_succ, len22, lenN22, k_lss, k_leq, k_gtr, k_geq, k_eql, k_neq, ia22, ld31, conv31_40, conv40_31, p1, e1, p2, e2, e3, conv31_5, hz, opA_index, ev_str]
      rw [tab9 _ ?tt _ z hz]
      case tt => kernel_rfl
      simp only [den_seq, den_region, den_ret, den_skip, den_label, den_exit, den_block, den_scope, den_condV, condV_bool, ops1_cons, ops1_guarded, guardV_bool, guardV_tup, guardD_0, guardD_s, ops1_nil, seqK_normal, seqK_ret, seqK_exit, blockK_normal, blockK_exit, blockK_ret, loopK_normal, loopK_exit, loopK_ret, finK_normal, finK_ret, opK_some, opA_move, opA_assign, opA_pick, pickA_bool, opA_len, opA_bin, opA_un, opA_ia, opA_load, opA_store, opA_conv, opA_make, opA_append, opA_copy, opA_max, opA_min, opA_slice, opA_call, opA_callq, opA_extract, extA_tup, Option.getD_some, Option.getD_none, setO_some, setO_none, ev_tmp, ev_int, ev_bool, ev_nil, ev_fn, upd_at, Option.map_some, Option.map_none, Option.bind_some, List.map_cons, List.map_nil, List.cons_append, List.nil_append, reduceIte, Nat.reduceEqDiff, Nat.reduceAdd, decide_true, decide_false, Bool.true_eq_false, Bool.false_eq_true, env0, List.getElem?_cons_zero, List.getElem?_cons_succ, len22, lenN22, k_lss, k_leq, k_gtr, k_geq, k_eql, k_neq, ia22, ld31, conv31_40, conv40_31, conv5_3 _ _ (hb z hz), e4]
      exact finish_tree _ _ _ _ _ _ (.int .i64 (blen x : Int)) _ _ (by simp only [upd_at, reduceIte, Nat.reduceEqDiff]; congr 1; omega) rfl rfl
    · have p2 : ¬ (y : Int) ≥ 256 := by omega
      have hz : y < 256 := by omega
      have hbz := hb y hz
      have e4 := i_add Try.prog 3 (16 : Int) (blen y : Int) (by omega) (by omega)
      simp only [den_seq, den_region, den_ret, den_skip, den_label, den_exit, den_block, den_scope, den_condV, condV_bool, ops1_cons, ops1_guarded, guardV_bool, guardV_tup, guardD_0, guardD_s, ops1_nil, seqK_normal, seqK_ret, seqK_exit, blockK_normal, blockK_exit, blockK_ret, loopK_normal, loopK_exit, loopK_ret, finK_normal, finK_ret, opK_some, opA_move, opA_assign, opA_pick, pickA_bool, opA_len, opA_bin, opA_un, opA_ia, opA_load, opA_store, opA_conv, opA_make, opA_append, opA_copy, opA_max, opA_min, opA_slice, opA_call, opA_callq, opA_extract, extA_tup, Option.getD_some, Option.getD_none, setO_some, setO_none, ev_tmp, ev_int, ev_bool, ev_nil, ev_fn, upd_at, Option.map_some, Option.map_none, Option.bind_some, List.map_cons, List.map_nil, List.cons_append, List.nil_append, reduceIte, Nat.reduceEqDiff, Nat.reduceAdd, decide_true, decide_false, Bool.true_eq_false, Bool.false_eq_true, env0, List.getElem?_cons_zero, List.getElem?_cons_succ, len22, lenN22, k_lss, k_leq, k_gtr, k_geq, k_eql, k_neq, ia22, ld31, conv31_40, conv40_31, p1, e1, p2, conv31_5, hz, opA_index, ev_str]
      rw [tab9 _ ?tt _ y hz]
      case tt => kernel_rfl
      simp only [den_seq, den_region, den_ret, den_skip, den_label, den_exit, den_block, den_scope, den_condV, condV_bool, ops1_cons, ops1_guarded, guardV_bool, guardV_tup, guardD_0, guardD_s, ops1_nil, seqK_normal, seqK_ret, seqK_exit, blockK_normal, blockK_exit, blockK_ret, loopK_normal, loopK_exit, loopK_ret, finK_normal, finK_ret, opK_some, opA_move, opA_assign, opA_pick, pickA_bool, opA_len, opA_bin, opA_un, opA_ia, opA_load, opA_store, opA_conv, opA_make, opA_append, opA_copy, opA_max, opA_min, opA_slice, opA_call, opA_callq, opA_extract, extA_tup, Option.getD_some, Option.getD_none, setO_some, setO_none, ev_tmp, ev_int, ev_bool, ev_nil, ev_fn, upd_at, Option.map_some, Option.map_none, Option.bind_some, List.map_cons, List.map_nil, List.cons_append, List.nil_append, reduceIte, Nat.reduceEqDiff, Nat.reduceAdd, decide_true, decide_false, Bool.true_eq_false, Bool.false_eq_true, env0, List.getElem?_cons_zero, List.getElem?_cons_succ, len22, lenN22, k_lss, k_leq, k_gtr, k_geq, k_eql, k_neq, ia22, ld31, conv31_40, conv40_31, conv5_3 _ _ (hb y hz), e4]
      exact finish_tree _ _ _ _ _ _ (.int .i64 (blen x : Int)) _ _ (by simp only [upd_at, reduceIte, Nat.reduceEqDiff]; congr 1; omega) rfl rfl
  · have p1 : ¬ (x : Int) ≥ 65536 := by omega
    by_cases h2 : x ≥ 256
    · have p2 : (x : Int) ≥ 256 := by omega
      have e2 := s_shr Try.prog 31 x .u64 8 (by decide) (by decide)
      rw [show (2 : Nat) ^ (8 : Int).toNat = 256 from rfl] at e2
      have hb2 := blen_down x 8 (by omega)
      rw [show (2 : Nat) ^ 8 = 256 from rfl] at hb2
      have hz : x / 256 < 256 := by omega
      generalize x / 256 = z at *
      have e3 := i_add Try.prog 3 (0 : Int) 8 (by decide) (by decide)
      have hbz := hb z hz
      have e4 := i_add Try.prog 3 (0 + 8 : Int) (blen z : Int) (by omega) (by omega)
      simp only [den_seq, den_region, den_ret, den_skip, den_label, den_exit, den_block, den_scope, den_condV, condV_bool, ops1_cons, ops1_guarded, guardV_bool, guardV_tup, guardD_0, guardD_s, ops1_nil, seqK_normal, seqK_ret, seqK_exit, blockK_normal, blockK_exit, blockK_ret, loopK_normal, loopK_exit, loopK_ret, finK_normal, finK_ret, opK_some, opA_move, opA_assign, opA_pick, pickA_bool, opA_len, opA_bin, opA_un, opA_ia, opA_load, opA_store, opA_conv, opA_make, opA_append, opA_copy, opA_max, opA_min, opA_slice, opA_call, opA_callq, opA_extract, extA_tup, Option.getD_some, Option.getD_none, setO_some, setO_none, ev_tmp, ev_int, ev_bool, ev_nil, ev_fn, upd_at, Option.map_some, Option.map_none, Option.bind_some, List.map_cons, List.map_nil, List.cons_append, List.nil_append, reduceIte, Nat.reduceEqDiff, Nat.reduceAdd, decide_true, decide_false, Bool.true_eq_false, Bool.false_eq_true, env0, List.getElem?_cons_zero, List.getElem?_cons_succ, len22, lenN22, k_lss, k_leq, k_gtr, k_geq, k_eql, k_neq, ia22, ld31, conv31_40, conv40_31, p1, p2, e2, e3, conv31_5, hz, opA_index, ev_str]
      rw [tab9 _ ?tt _ z hz]
      case tt => kernel_rfl
      simp only [den_seq, den_region, den_ret, den_skip, den_label, den_exit, den_block, den_scope, den_condV, condV_bool, ops1_cons, ops1_guarded, guardV_bool, guardV_tup, guardD_0, guardD_s, ops1_nil, seqK_normal, seqK_ret, seqK_exit, blockK_normal, blockK_exit, blockK_ret, loopK_normal, loopK_exit, loopK_ret, finK_normal, finK_ret, opK_some, opA_move, opA_assign, opA_pick, pickA_bool, opA_len, opA_bin, opA_un, opA_ia, opA_load, opA_store, opA_conv, opA_make, opA_append, opA_copy, opA_max, opA_min, opA_slice, opA_call, opA_callq, opA_extract, extA_tup, Option.getD_some, Option.getD_none, setO_some, setO_none, ev_tmp, ev_int, ev_bool, ev_nil, ev_fn, upd_at, Option.map_some, Option.map_none, Option.bind_some, List.map_cons, List.map_nil, List.cons_append, List.nil_append, reduceIte, Nat.reduceEqDiff, Nat.reduceAdd, decide_true, decide_false, Bool.true_eq_false, Bool.false_eq_true, env0, List.getElem?_cons_zero, List.getElem?_cons_succ, len22, lenN22, k_lss, k_leq, k_gtr, k_geq, k_eql, k_neq, ia22, ld31, conv31_40, conv40_31, conv5_3 _ _ (hb z hz), e4]
      exact finish_tree _ _ _ _ _ _ (.int .i64 (blen x : Int)) _ _ (by simp only [upd_at, reduceIte, Nat.reduceEqDiff]; congr 1; omega) rfl rfl
    · have p2 : ¬ (x : Int) ≥ 256 := by omega
      have hz : x < 256 := by omega
      have hbz := hb x hz
      have e4 := i_add Try.prog 3 (0 : Int) (blen x : Int) (by omega) (by omega)
      simp only [den_seq, den_region, den_ret, den_skip, den_label, den_exit, den_block, den_scope, den_condV, condV_bool, ops1_cons, ops1_guarded, guardV_bool, guardV_tup, guardD_0, guardD_s, ops1_nil, seqK_normal, seqK_ret, seqK_exit, blockK_normal, blockK_exit, blockK_ret, loopK_normal, loopK_exit, loopK_ret, finK_normal, finK_ret, opK_some, opA_move, opA_assign, opA_pick, pickA_bool, opA_len, opA_bin, opA_un, opA_ia, opA_load, opA_store, opA_conv, opA_make, opA_append, opA_copy, opA_max, opA_min, opA_slice, opA_call, opA_callq, opA_extract, extA_tup, Option.getD_some, Option.getD_none, setO_some, setO_none, ev_tmp, ev_int, ev_bool, ev_nil, ev_fn, upd_at, Option.map_some, Option.map_none, Option.bind_some, List.map_cons, List.map_nil, List.cons_append, List.nil_append, reduceIte, Nat.reduceEqDiff, Nat.reduceAdd, decide_true, decide_false, Bool.true_eq_false, Bool.false_eq_true, env0, List.getElem?_cons_zero, List.getElem?_cons_succ, len22, lenN22, k_lss, k_leq, k_gtr, k_geq, k_eql, k_neq, ia22, ld31, conv31_40, conv40_31, p1, p2, conv31_5, hz, opA_index, ev_str]
      rw [tab9 _ ?tt _ x hz]
      case tt => kernel_rfl
      simp only [den_seq, den_region, den_ret, den_skip, den_label, den_exit, den_block, den_scope, den_condV, condV_bool, ops1_cons, ops1_guarded, guardV_bool, guardV_tup, guardD_0, guardD_s, ops1_nil, seqK_normal, seqK_ret, seqK_exit, blockK_normal, blockK_exit, blockK_ret, loopK_normal, loopK_exit, loopK_ret, finK_normal, finK_ret, opK_some, opA_move, opA_assign, opA_pick, pickA_bool, opA_len, opA_bin, opA_un, opA_ia, opA_load, opA_store, opA_conv, opA_make, opA_append, opA_copy, opA_max, opA_min, opA_slice, opA_call, opA_callq, opA_extract, extA_tup, Option.getD_some, Option.getD_none, setO_some, setO_none, ev_tmp, ev_int, ev_bool, ev_nil, ev_fn, upd_at, Option.map_some, Option.map_none, Option.bind_some, List.map_cons, List.map_nil, List.cons_append, List.nil_append, reduceIte, Nat.reduceEqDiff, Nat.reduceAdd, decide_true, decide_false, Bool.true_eq_false, Bool.false_eq_true, env0, List.getElem?_cons_zero, List.getElem?_cons_succ, len22, lenN22, k_lss, k_leq, k_gtr, k_geq, k_eql, k_neq, ia22, ld31, conv31_40, conv40_31, conv5_3 _ _ (hb x hz), e4]
      exact finish_tree _ _ _ _ _ _ (.int .i64 (blen x : Int)) _ _ (by simp only [upd_at, reduceIte, Nat.reduceEqDiff]; congr 1; omega) rfl rfl

theorem len32_call (n d : Nat) (x : Nat) (hx : x < 4294967296) (D : Nat) (s : St) : callA cfg0 (evalFn Try.prog cfg0 n (d+1)) D s 34 [.int .u32 (x : Int)] = some (.int .i64 ((blen x : Nat) : Int), s) :=
  callA_int1 _ _ _ _ _ _ _ (len32_eq n d x hx)

theorem len_eq (n d : Nat) (b : Bool) (l : List Nat) (hl : Limbs l) (hn : l.length < n) (hlen : l.length ≤ 1000000) : evalFn Try.prog cfg0 n (d+2) 17 [.tree (encL b l)] = some (.tree (.int .i64 ((blen (val l) : Nat) : Int)), [[]]) := by
  rw [evalFn_go _ Try.func17 (by unfold Try.f17; rfl) (by unfold Try.f17; decide) (Nat.le_of_ble_eq_true (by unfold Try.f17; rfl)) (by kernel_rfl)]
  have e0 := i_sub Try.prog 3 (l.length : Int) 1 (by omega) (by omega)
  simp only [den_seq, den_region, den_ret, den_skip, den_label, den_exit, den_block, den_scope, den_condV, condV_bool, ops1_cons, ops1_guarded, guardV_bool, guardV_tup, guardD_0, guardD_s, ops1_nil, seqK_normal, seqK_ret, seqK_exit, blockK_normal, blockK_exit, blockK_ret, loopK_normal, loopK_exit, loopK_ret, finK_normal, finK_ret, opK_some, opA_move, opA_assign, opA_pick, pickA_bool, opA_len, opA_bin, opA_un, opA_ia, opA_load, opA_store, opA_conv, opA_make, opA_append, opA_copy, opA_max, opA_min, opA_slice, opA_call, opA_callq, opA_extract, extA_tup, Option.getD_some, Option.getD_none, setO_some, setO_none, ev_tmp, ev_int, ev_bool, ev_nil, ev_fn, upd_at, Option.map_some, Option.map_none, Option.bind_some, List.map_cons, List.map_nil, List.cons_append, List.nil_append, reduceIte, Nat.reduceEqDiff, Nat.reduceAdd, decide_true, decide_false, Bool.true_eq_false, Bool.false_eq_true, env0, List.getElem?_cons_zero, List.getElem?_cons_succ, len22, lenN22, k_lss, k_leq, k_gtr, k_geq, k_eql, k_neq, ia22, ld31, conv31_40, conv40_31, st0_1, e0, den_loop]
  refine loop_ends (X := Nat) (fun k env s => env 0 = encL b l ∧ env 3 = .int .i64 ((k : Int) - 1) ∧ s = dead ∧ k ≤ l.length ∧ val (l.take k) = val l) id (fun _ => (.tree (.int .i64 ((blen (val l) : Nat) : Int)), [[]])) ?_ n l.length _ _ hn ⟨rfl, rfl, rfl, Nat.le_refl _, by simp⟩
  intro k x hx ih env s ⟨h0, h3, hs, hk, hv⟩
  subst hs
  by_cases hp : x = 0
  · subst hp
    have q1 : ¬ (((0 : Nat) : Int) - 1 ≥ 0) := by omega
    have q2 : ((0 : Nat) : Int) - 1 < 0 := by omega
    have hv0 : val l = 0 := by rw [← hv]; rfl
    simp only [den_seq, den_region, den_ret, den_skip, den_label, den_exit, den_block, den_scope, den_condV, condV_bool, ops1_cons, ops1_guarded, guardV_bool, guardV_tup, guardD_0, guardD_s, ops1_nil, seqK_normal, seqK_ret, seqK_exit, blockK_normal, blockK_exit, blockK_ret, loopK_normal, loopK_exit, loopK_ret, finK_normal, finK_ret, opK_some, opA_move, opA_assign, opA_pick, pickA_bool, opA_len, opA_bin, opA_un, opA_ia, opA_load, opA_store, opA_conv, opA_make, opA_append, opA_copy, opA_max, opA_min, opA_slice, opA_call, opA_callq, opA_extract, extA_tup, Option.getD_some, Option.getD_none, setO_some, setO_none, ev_tmp, ev_int, ev_bool, ev_nil, ev_fn, upd_at, Option.map_some, Option.map_none, Option.bind_some, List.map_cons, List.map_nil, List.cons_append, List.nil_append, reduceIte, Nat.reduceEqDiff, Nat.reduceAdd, decide_true, decide_false, Bool.true_eq_false, Bool.false_eq_true, len22, lenN22, k_lss, k_leq, k_gtr, k_geq, k_eql, k_neq, ia22, ld31, conv31_40, conv40_31, h0, h3, q1, q2]
    rw [hv0]
    exact finish_tree _ _ _ _ _ _ (.int .i64 0) _ _ (by simp only [upd_at, reduceIte]) rfl rfl
  · obtain ⟨y, rfl⟩ : ∃ y, x = y + 1 := ⟨x - 1, by omega⟩
    have p2 : ((y + 1 : Nat) : Int) - 1 = (y : Int) := by omega
    rw [p2] at h3
    have p6 : (y : Int) ≥ 0 := by omega
    have p7 : (0 : Int) ≤ (y : Int) := by omega
    have p3 : (y : Int) < l.length := by omega
    have p4 : y < l.length := by omega
    have e1 := i_sub Try.prog 3 (y : Int) 1 (by omega) (by omega)
    by_cases hz : l.getD y 0 = 0
    · have p5 : (((l.getD y 0 : Nat) : Int) == 0) = true := by rw [hz]; rfl
      simp only [den_seq, den_region, den_ret, den_skip, den_label, den_exit, den_block, den_scope, den_condV, condV_bool, ops1_cons, ops1_guarded, guardV_bool, guardV_tup, guardD_0, guardD_s, ops1_nil, seqK_normal, seqK_ret, seqK_exit, blockK_normal, blockK_exit, blockK_ret, loopK_normal, loopK_exit, loopK_ret, finK_normal, finK_ret, opK_some, opA_move, opA_assign, opA_pick, pickA_bool, opA_len, opA_bin, opA_un, opA_ia, opA_load, opA_store, opA_conv, opA_make, opA_append, opA_copy, opA_max, opA_min, opA_slice, opA_call, opA_callq, opA_extract, extA_tup, Option.getD_some, Option.getD_none, setO_some, setO_none, ev_tmp, ev_int, ev_bool, ev_nil, ev_fn, upd_at, Option.map_some, Option.map_none, Option.bind_some, List.map_cons, List.map_nil, List.cons_append, List.nil_append, reduceIte, Nat.reduceEqDiff, Nat.reduceAdd, decide_true, decide_false, Bool.true_eq_false, Bool.false_eq_true, len22, lenN22, k_lss, k_leq, k_gtr, k_geq, k_eql, k_neq, ia22, ld31, conv31_40, conv40_31, h0, h3, p6, p7, p3, e1, Int.toNat_natCast, p4, p5]
      refine ih y _ _ (Nat.lt_succ_self _) rfl ⟨?_, ?_, rfl, by omega, ?_⟩
      · simp only [upd_at, reduceIte, Nat.reduceEqDiff, h0]
      · simp only [upd_at, reduceIte, Nat.reduceEqDiff]
      · rw [← hv, val_take_succ _ _ p4, hz, Nat.mul_zero, Nat.add_zero]
    · have p5 : (((l.getD y 0 : Nat) : Int) == 0) = false := by
        rw [beq_eq_false_iff_ne]; omega
      have q2 : ¬ ((y : Int) < 0) := by omega
      have c1 := len32_call n d (l.getD y 0) (getD_lt l hl y)
      have hb := blen_le (l.getD y 0) 32 (getD_lt l hl y)
      have e2 := i_mul Try.prog 3 32 (y : Int) (by omega) (by omega)
      have e3 := i_add Try.prog 3 (32 * (y : Int)) (blen (l.getD y 0) : Int) (by omega) (by omega)
      simp only [den_seq, den_region, den_ret, den_skip, den_label, den_exit, den_block, den_scope, den_condV, condV_bool, ops1_cons, ops1_guarded, guardV_bool, guardV_tup, guardD_0, guardD_s, ops1_nil, seqK_normal, seqK_ret, seqK_exit, blockK_normal, blockK_exit, blockK_ret, loopK_normal, loopK_exit, loopK_ret, finK_normal, finK_ret, opK_some, opA_move, opA_assign, opA_pick, pickA_bool, opA_len, opA_bin, opA_un, opA_ia, opA_load, opA_store, opA_conv, opA_make, opA_append, opA_copy, opA_max, opA_min, opA_slice, opA_call, opA_callq, opA_extract, extA_tup, Option.getD_some, Option.getD_none, setO_some, setO_none, ev_tmp, ev_int, ev_bool, ev_nil, ev_fn, upd_at, Option.map_some, Option.map_none, Option.bind_some, List.map_cons, List.map_nil, List.cons_append, List.nil_append, reduceIte, Nat.reduceEqDiff, Nat.reduceAdd, decide_true, decide_false, Bool.true_eq_false, Bool.false_eq_true, len22, lenN22, k_lss, k_leq, k_gtr, k_geq, k_eql, k_neq, ia22, ld31, conv31_40, conv40_31, h0, h3, p6, p7, p3, e1, e2, e3, Int.toNat_natCast, p4, p5, q2, c1]
      rw [blen_val l hl y hz hv]
      exact finish_tree _ _ _ _ _ _ (.int .i64 ((32 * y + blen (l.getD y 0) : Nat) : Int)) _ _ (by simp only [upd_at, reduceIte, Nat.reduceEqDiff]; congr 1) rfl rfl
theorem len_call (n d : Nat) (b : Bool) (l : List Nat) (hl : Limbs l) (hn : l.length < n) (hlen : l.length ≤ 1000000) (D : Nat) (s : St) : callA cfg0 (evalFn Try.prog cfg0 n (d+2)) D s 17 [encL b l] = some (.int .i64 ((blen (val l) : Nat) : Int), s) :=
  callA_L1 _ _ _ _ _ _ _ (len_eq n d b l hl hn hlen)
end Go.Ab
