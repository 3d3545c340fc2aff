/- The limb statements' own helpers, and sums. Conditions: limbs in range. -/
import Derived.Test.YtlmffjpfjbhliaaAbL10
namespace Go.Ab
open Go.Proofs
set_option maxRecDepth 100000
set_option linter.unusedSimpArgs false

theorem callA_0 (call : FuncId → List Arg → Option Out) (d : Nat) (s : St) (f : FuncId) (v : AV) (hc : call f [] = some (.tree v, [])) : callA cfg0 call d s f [] = some (v, s) := by
  simp [callA, argsA, givesL, lendsL, hc, backA, resA]
theorem st0_0 : st0 [] = dead := by
  funext j; simp [st0, dead]
theorem digs_sq : digs (4294967295 * 4294967295) = [1, 4294967294] := by
  rw [digs_pos _ (by decide), digs_pos _ (by decide), show 4294967295 * 4294967295 / B / B = 0 by decide, digs_0]
  rfl
theorem encR_sq : encR (4294967295 * 4294967295) = encL false [1, 4294967294] := by
  rw [encR, digs_sq]; rfl
theorem num_one (x : Nat) (h : x < 4294967296) : Num (.sl [.int .u32 (x : Int)] 1 .tight) x := ⟨[x], ⟨_, rfl⟩, limbs_one h, by simp, by simp [val]⟩
theorem unA_not (b : Bool) : unA .not (.bool b) = some (.bool (!b)) := rfl

theorem awake_eq (n d : Nat) (hn : 100000 ≤ n) : evalFn Try.prog cfg0 n (d+3) 10 [] = some (.tree (.bool true), []) := by
  rw [evalFn_go _ Try.func10 (by unfold Try.f10; rfl) (by unfold Try.f10; decide) (Nat.le_of_ble_eq_true (by unfold Try.f10; rfl)) (by kernel_rfl)]
  have c1 := fun D s => cMul n d hn D s (num_one 4294967295 (by decide)) (num_one 4294967295 (by decide))
  rw [encR_sq] at c1
  rw [show ((4294967295 : Nat) : Int) = 4294967295 from rfl] at c1
  have c2 := fun D s => cLen n d hn D s (num_L false [1, 4294967294] (limbs_cons (by decide) (limbs_one (by decide))) (by decide))
  have hb : blen (val [1, 4294967294]) = 64 := blen_of _ 63 (by decide) (by decide)
  rw [hb] at c2
  have i1 := fun s => ia22 s false [1, 4294967294] .i64 0 (by decide) (by decide)
  have i2 := fun s => ia22 s false [1, 4294967294] .i64 1 (by decide) (by decide)
  have l1 := fun s => ld31 s [1, 4294967294] (0 : Int).toNat (by decide)
  have l2 := fun s => ld31 s [1, 4294967294] (1 : Int).toNat (by decide)
  have p1 : ((([1, 4294967294] : List Nat).length : Int) == 2) = true := rfl
  have p2 : ((([1, 4294967294] : List Nat).getD (0 : Int).toNat 0 : Int) == 1) = true := rfl
  have p3 : ((([1, 4294967294] : List Nat).getD (1 : Int).toNat 0 : Int) == 4294967294) = true := rfl
  have p4 : (((64 : Nat) : Int) == 64) = true := rfl
  simp only [den_seq, den_region, den_ret, den_skip, den_label, den_exit, den_block, den_scope, den_condV, condV_bool, ops1_cons, ops1_guarded, guardV_bool, guardV_tup, guardD_0, guardD_s, ops1_nil, seqK_normal, seqK_ret, seqK_exit, blockK_normal, blockK_exit, blockK_ret, loopK_normal, loopK_exit, loopK_ret, finK_normal, finK_ret, opK_some, opA_move, opA_assign, opA_pick, pickA_bool, opA_len, opA_bin, opA_un, opA_ia, opA_load, opA_store, opA_conv, opA_make, opA_append, opA_copy, opA_max, opA_min, opA_slice, opA_call, opA_callq, opA_extract, extA_tup, Option.getD_some, Option.getD_none, setO_some, setO_none, ev_tmp, ev_int, ev_bool, ev_nil, ev_fn, upd_at, Option.map_some, Option.map_none, Option.bind_some, List.map_cons, List.map_nil, List.cons_append, List.nil_append, reduceIte, Nat.reduceEqDiff, Nat.reduceAdd, decide_true, decide_false, Bool.true_eq_false, Bool.false_eq_true, env0, List.getElem?_cons_zero, List.getElem?_cons_succ, st0_0, opA_one, one22_int, c1, c2, len22, k_eql, i1, i2, l1, l2, p1, p2, p3, p4]
  exact finish_tree _ _ _ _ _ _ (.bool true) _ _ (by simp only [upd_at, reduceIte]) rfl rfl
theorem cAwake (n d : Nat) (hn : 100000 ≤ n) (D : Nat) (s : St) : callA cfg0 (evalFn Try.prog cfg0 n (d+3)) D s 10 [] = some (.bool true, s) := callA_0 _ _ _ _ _ (awake_eq n d hn)

theorem few_eq (n d : Nat) (b b' : Bool) (l m : List Nat) : evalFn Try.prog cfg0 n (d+1) 9 [.tree (encL b l), .tree (encL b' m)] = some (.tree (.bool (decide ((l.length : Int) ≤ 30) && decide ((m.length : Int) ≤ 30))), [[], []]) := by
  rw [evalFn_go _ Try.func9 (by unfold Try.f9; rfl) (by unfold Try.f9; decide) (Nat.le_of_ble_eq_true (by unfold Try.f9; rfl)) (by kernel_rfl)]
  by_cases h : (l.length : Int) ≤ 30
  · simp only [den_seq, den_region, den_ret, den_skip, den_label, den_exit, den_block, den_scope, den_condV, condV_bool, ops1_cons, ops1_guarded, guardV_bool, guardV_tup, guardD_0, guardD_s, ops1_nil, seqK_normal, seqK_ret, seqK_exit, blockK_normal, blockK_exit, blockK_ret, loopK_normal, loopK_exit, loopK_ret, finK_normal, finK_ret, opK_some, opA_move, opA_assign, opA_pick, pickA_bool, opA_len, opA_bin, opA_un, opA_ia, opA_load, opA_store, opA_conv, opA_make, opA_append, opA_copy, opA_max, opA_min, opA_slice, opA_call, opA_callq, opA_extract, extA_tup, Option.getD_some, Option.getD_none, setO_some, setO_none, ev_tmp, ev_int, ev_bool, ev_nil, ev_fn, upd_at, Option.map_some, Option.map_none, Option.bind_some, List.map_cons, List.map_nil, List.cons_append, List.nil_append, reduceIte, Nat.reduceEqDiff, Nat.reduceAdd, decide_true, decide_false, Bool.true_eq_false, Bool.false_eq_true, env0, List.getElem?_cons_zero, List.getElem?_cons_succ, len22, lenN22, k_lss, k_leq, k_gtr, k_geq, k_eql, k_neq, ia22, ld31, conv31_40, conv40_31, h]
    exact finish_tree _ _ _ _ _ _ (.bool (decide ((m.length : Int) ≤ 30))) _ _ (by simp only [upd_at, reduceIte]) rfl rfl
  · simp only [den_seq, den_region, den_ret, den_skip, den_label, den_exit, den_block, den_scope, den_condV, condV_bool, ops1_cons, ops1_guarded, guardV_bool, guardV_tup, guardD_0, guardD_s, ops1_nil, seqK_normal, seqK_ret, seqK_exit, blockK_normal, blockK_exit, blockK_ret, loopK_normal, loopK_exit, loopK_ret, finK_normal, finK_ret, opK_some, opA_move, opA_assign, opA_pick, pickA_bool, opA_len, opA_bin, opA_un, opA_ia, opA_load, opA_store, opA_conv, opA_make, opA_append, opA_copy, opA_max, opA_min, opA_slice, opA_call, opA_callq, opA_extract, extA_tup, Option.getD_some, Option.getD_none, setO_some, setO_none, ev_tmp, ev_int, ev_bool, ev_nil, ev_fn, upd_at, Option.map_some, Option.map_none, Option.bind_some, List.map_cons, List.map_nil, List.cons_append, List.nil_append, reduceIte, Nat.reduceEqDiff, Nat.reduceAdd, decide_true, decide_false, Bool.true_eq_false, Bool.false_eq_true, env0, List.getElem?_cons_zero, List.getElem?_cons_succ, len22, lenN22, k_lss, k_leq, k_gtr, k_geq, k_eql, k_neq, ia22, ld31, conv31_40, conv40_31, h]
    exact finish_tree _ _ _ _ _ _ (.bool false) _ _ (by simp only [upd_at, reduceIte]) rfl rfl
theorem cFew (n d : Nat) (b b' : Bool) (l m : List Nat) (D : Nat) (s : St) : callA cfg0 (evalFn Try.prog cfg0 n (d+1)) D s 9 [encL b l, encL b' m] = some (.bool (decide ((l.length : Int) ≤ 30) && decide ((m.length : Int) ≤ 30)), s) :=
  callA_L2 _ _ _ _ _ _ _ _ _ (few_eq n d b b' l m)
theorem num_nil : Num (.sl [] 0 .tight) 0 := ⟨[], ⟨_, rfl⟩, limbs_nil, by decide, rfl⟩
/-- Behind an operation: of the temporaries only what is told. -/
theorem forget {call : FuncId → List Arg → Option Out} {q : Bool} {all : Array Oper} {d : Option Tmp} {r : List Oper} {K : Kont} {env : Env} {x : Option (AV × St)} {out : Option Out} (I : Env → Prop) (hI : I env) (h : ∀ env, I env → opK Try.prog cfg0 call q all d r K env x = out) :
    opK Try.prog cfg0 call q all d r K env x = out := h env hI
theorem cmp0 (x y : Nat) (h : x = y) : (cmpZ x y == 0) = true := by rw [h, cmpZ_self]; rfl

set_option maxHeartbeats 4000000 in
theorem sums_eq (n d : Nat) (hn : 100000 ≤ n) (b1 b2 b3 : Bool) (a b c : List Nat) (ha : Limbs a) (hb : Limbs b) (hc : Limbs c) : evalFn Try.prog cfg0 n (d+5) 4 [.tree (encL b1 a), .tree (encL b2 b), .tree (encL b3 c)] = some (.tree (.bool true), [[], [], []]) := by
  rw [evalFn_go _ Try.func4 (by unfold Try.f4; rfl) (by unfold Try.f4; decide) (Nat.le_of_ble_eq_true (by unfold Try.f4; rfl)) (by kernel_rfl)]
  have w := cAwake n (d + 1) hn
  have f := cFew n (d + 3) b1 b2 a b
  by_cases h1 : (a.length : Int) ≤ 30
  rotate_left
  · simp only [den_seq, den_region, den_ret, den_skip, den_label, den_exit, den_block, den_scope, den_condV, condV_bool, ops1_cons, ops1_guarded, guardV_bool, guardV_tup, guardD_0, guardD_s, ops1_nil, seqK_normal, seqK_ret, seqK_exit, blockK_normal, blockK_exit, blockK_ret, loopK_normal, loopK_exit, loopK_ret, finK_normal, finK_ret, opK_some, opA_move, opA_assign, opA_pick, pickA_bool, opA_len, opA_bin, opA_un, opA_ia, opA_load, opA_store, opA_conv, opA_make, opA_append, opA_copy, opA_max, opA_min, opA_slice, opA_call, opA_callq, opA_extract, extA_tup, Option.getD_some, Option.getD_none, setO_some, setO_none, ev_tmp, ev_int, ev_bool, ev_nil, ev_fn, upd_at, Option.map_some, Option.map_none, Option.bind_some, List.map_cons, List.map_nil, List.cons_append, List.nil_append, reduceIte, Nat.reduceEqDiff, Nat.reduceAdd, decide_true, decide_false, Bool.true_eq_false, Bool.false_eq_true, env0, List.getElem?_cons_zero, List.getElem?_cons_succ, len22, lenN22, k_lss, k_leq, k_gtr, k_geq, k_eql, k_neq, ia22, ld31, conv31_40, conv40_31, f, h1, unA_not, Bool.false_and, Bool.not_false, w]
    exact finish_tree _ _ _ _ _ _ (.bool true) _ _ (by simp only [upd_at, reduceIte]) rfl rfl
  by_cases h2 : (b.length : Int) ≤ 30
  rotate_left
  · simp only [den_seq, den_region, den_ret, den_skip, den_label, den_exit, den_block, den_scope, den_condV, condV_bool, ops1_cons, ops1_guarded, guardV_bool, guardV_tup, guardD_0, guardD_s, ops1_nil, seqK_normal, seqK_ret, seqK_exit, blockK_normal, blockK_exit, blockK_ret, loopK_normal, loopK_exit, loopK_ret, finK_normal, finK_ret, opK_some, opA_move, opA_assign, opA_pick, pickA_bool, opA_len, opA_bin, opA_un, opA_ia, opA_load, opA_store, opA_conv, opA_make, opA_append, opA_copy, opA_max, opA_min, opA_slice, opA_call, opA_callq, opA_extract, extA_tup, Option.getD_some, Option.getD_none, setO_some, setO_none, ev_tmp, ev_int, ev_bool, ev_nil, ev_fn, upd_at, Option.map_some, Option.map_none, Option.bind_some, List.map_cons, List.map_nil, List.cons_append, List.nil_append, reduceIte, Nat.reduceEqDiff, Nat.reduceAdd, decide_true, decide_false, Bool.true_eq_false, Bool.false_eq_true, env0, List.getElem?_cons_zero, List.getElem?_cons_succ, len22, lenN22, k_lss, k_leq, k_gtr, k_geq, k_eql, k_neq, ia22, ld31, conv31_40, conv40_31, f, h1, h2, unA_not, Bool.and_false, Bool.not_false, w]
    exact finish_tree _ _ _ _ _ _ (.bool true) _ _ (by simp only [upd_at, reduceIte]) rfl rfl
  by_cases h3 : (c.length : Int) > 30
  · simp only [den_seq, den_region, den_ret, den_skip, den_label, den_exit, den_block, den_scope, den_condV, condV_bool, ops1_cons, ops1_guarded, guardV_bool, guardV_tup, guardD_0, guardD_s, ops1_nil, seqK_normal, seqK_ret, seqK_exit, blockK_normal, blockK_exit, blockK_ret, loopK_normal, loopK_exit, loopK_ret, finK_normal, finK_ret, opK_some, opA_move, opA_assign, opA_pick, pickA_bool, opA_len, opA_bin, opA_un, opA_ia, opA_load, opA_store, opA_conv, opA_make, opA_append, opA_copy, opA_max, opA_min, opA_slice, opA_call, opA_callq, opA_extract, extA_tup, Option.getD_some, Option.getD_none, setO_some, setO_none, ev_tmp, ev_int, ev_bool, ev_nil, ev_fn, upd_at, Option.map_some, Option.map_none, Option.bind_some, List.map_cons, List.map_nil, List.cons_append, List.nil_append, reduceIte, Nat.reduceEqDiff, Nat.reduceAdd, decide_true, decide_false, Bool.true_eq_false, Bool.false_eq_true, env0, List.getElem?_cons_zero, List.getElem?_cons_succ, len22, lenN22, k_lss, k_leq, k_gtr, k_geq, k_eql, k_neq, ia22, ld31, conv31_40, conv40_31, f, h1, h2, h3, unA_not, Bool.and_self, Bool.not_true, w]
    exact finish_tree _ _ _ _ _ _ (.bool true) _ _ (by simp only [upd_at, reduceIte]) rfl rfl
  have va : val a < B ^ 30 := Nat.lt_of_lt_of_le (val_lt a ha) (Nat.pow_le_pow_right (by decide) (by omega))
  have vb : val b < B ^ 30 := Nat.lt_of_lt_of_le (val_lt b hb) (Nat.pow_le_pow_right (by decide) (by omega))
  have vc : val c < B ^ 30 := Nat.lt_of_lt_of_le (val_lt c hc) (Nat.pow_le_pow_right (by decide) (by omega))
  have na := num_L b1 a ha (by omega)
  have nb := num_L b2 b hb (by omega)
  have nc := num_L b3 c hc (by omega)
  have e31 : B ^ 30 * 4 ≤ B ^ 31 := by rw [show (31 : Nat) = 30 + 1 from rfl, Nat.pow_succ]; exact Nat.mul_le_mul_left _ (by decide)
  have pab : val a + val b < B ^ 31 := by generalize B ^ 31 = q at *; generalize B ^ 30 = p at *; omega
  have pa1 : val a + 1 < B ^ 31 := by generalize B ^ 31 = q at *; generalize B ^ 30 = p at *; omega
  have big : ∀ x y, x < B ^ 31 → y < B ^ 31 → x * y < B ^ 62 := fun x y hx hy => by
    rw [show (62 : Nat) = 31 + 31 from rfl, Nat.pow_add]; exact Nat.mul_lt_mul'' hx hy
  have e30 : B ^ 30 ≤ B ^ 31 := Nat.pow_le_pow_right (by decide) (by decide)
  have la : val a < B ^ 31 := Nat.lt_of_lt_of_le va e30
  have lb : val b < B ^ 31 := Nat.lt_of_lt_of_le vb e30
  have lc : val c < B ^ 31 := Nat.lt_of_lt_of_le vc e30
  have e62 : B ^ 62 * 2 ≤ B ^ 63 := by rw [show (63 : Nat) = 62 + 1 from rfl, Nat.pow_succ]; exact Nat.mul_le_mul_left _ (by decide)
  have nab := num_R _ 31 (by decide) pab
  have n1 := num_one 1 (by decide)
  rw [show ((1 : Nat) : Int) = 1 from rfl] at n1
  have c1 := fun D s => cAdd n (d + 2) hn D s na nb
  have c2 := fun D s => cSub n d hn D s nab nb
  rw [Nat.add_sub_cancel] at c2
  have c3 := fun D s => cCmp n (d + 1) hn D s (num_R _ 31 (by decide) la) na
  have c4 := fun D s => cAdd n (d + 2) hn D s nb na
  have c5 := fun D s => cCmp n (d + 1) hn D s nab (num_R _ 31 (by decide) (show val b + val a < B ^ 31 by rw [Nat.add_comm]; exact pab))
  have c6 := fun D s => cMul n (d + 2) hn D s na nb
  have c7 := fun D s => cMul n (d + 2) hn D s nb na
  have c8 := fun D s => cCmp n (d + 1) hn D s (num_R _ 62 (by decide) (big _ _ la lb)) (num_R _ 62 (by decide) (big _ _ lb la))
  have c9 := fun D s => cMul n (d + 2) hn D s nc nab
  have c10 := fun D s => cMul n (d + 2) hn D s nc na
  have c11 := fun D s => cMul n (d + 2) hn D s nc nb
  have nca := num_R _ 62 (by decide) (big _ _ lc la)
  have ncb := num_R _ 62 (by decide) (big _ _ lc lb)
  have pcc : val c * val a + val c * val b < B ^ 63 := by
    have h1 := big _ _ lc la
    have h2 := big _ _ lc lb
    generalize B ^ 62 = p at *; generalize B ^ 63 = q at *; omega
  have c12 := fun D s => cAdd n (d + 2) hn D s nca ncb
  have c13 := fun D s => cCmp n (d + 1) hn D s (num_R _ 62 (by decide) (big _ _ lc pab)) (num_R _ 63 (by decide) pcc)
  have c14 := fun D s => cSub n d hn D s na na
  rw [Nat.sub_self] at c14
  have z31 : 0 < B ^ 31 := Nat.pow_pos (by decide)
  have c15 := fun D s => cCmp n (d + 1) hn D s (num_R 0 31 (by decide) z31) num_nil
  have c16 := fun D s => cAdd n (d + 2) hn D s na n1
  have c17 := fun D s => cSub n d hn D s na (num_R _ 31 (by decide) pa1)
  rw [show val a - (val a + 1) = 0 by omega] at c17
  have c18 := fun D s => cLen n (d + 2) hn D s (num_R 0 31 (by decide) z31)
  rw [blen_0] at c18
  have p1 := cmp0 (val a) (val a) rfl
  have p2 := cmp0 (val a + val b) (val b + val a) (Nat.add_comm _ _)
  have p3 := cmp0 (val a * val b) (val b * val a) (Nat.mul_comm _ _)
  have p4 := cmp0 (val c * (val a + val b)) (val c * val a + val c * val b) (Nat.mul_add _ _ _)
  have p5 := cmp0 0 0 rfl
  have p6 : (((0 : Nat) : Int) == 0) = true := rfl
  simp only [den_seq, den_region, den_ret, den_skip, den_label, den_exit, den_block, den_scope, den_condV, condV_bool, ops1_cons, ops1_guarded, guardV_bool, guardV_tup, guardD_0, guardD_s, ops1_nil, seqK_normal, seqK_ret, seqK_exit, blockK_normal, blockK_exit, blockK_ret, loopK_normal, loopK_exit, loopK_ret, finK_normal, finK_ret, opK_some, opA_move, opA_assign, opA_pick, pickA_bool, opA_len, opA_bin, opA_un, opA_ia, opA_load, opA_store, opA_conv, opA_make, opA_append, opA_copy, opA_max, opA_min, opA_slice, opA_call, opA_callq, opA_extract, extA_tup, Option.getD_some, Option.getD_none, setO_some, setO_none, ev_tmp, ev_int, ev_bool, ev_nil, ev_fn, upd_at, Option.map_some, Option.map_none, Option.bind_some, List.map_cons, List.map_nil, List.cons_append, List.nil_append, reduceIte, Nat.reduceEqDiff, Nat.reduceAdd, decide_true, decide_false, Bool.true_eq_false, Bool.false_eq_true, env0, List.getElem?_cons_zero, List.getElem?_cons_succ, len22, lenN22, k_lss, k_leq, k_gtr, k_geq, k_eql, k_neq, ia22, ld31, conv31_40, conv40_31, f, h1, h2, h3, unA_not, Bool.and_self, Bool.not_true, c1, c2, c3, c4, c5, p1, p2]
  refine forget (fun env => env 0 = encL b1 a ∧ env 1 = encL b2 b ∧ env 2 = encL b3 c ∧ env 7 = encR (val a + val b) ∧ env 35 = .bool true) ⟨by simp only [upd_at, reduceIte, Nat.reduceEqDiff, env0, List.getElem?_cons_zero, List.getElem?_cons_succ], by simp only [upd_at, reduceIte, Nat.reduceEqDiff, env0, List.getElem?_cons_zero, List.getElem?_cons_succ], by simp only [upd_at, reduceIte, Nat.reduceEqDiff, env0, List.getElem?_cons_zero, List.getElem?_cons_succ], by simp only [upd_at, reduceIte, Nat.reduceEqDiff, env0, List.getElem?_cons_zero, List.getElem?_cons_succ], by simp only [upd_at, reduceIte, Nat.reduceEqDiff, env0, List.getElem?_cons_zero, List.getElem?_cons_succ]⟩ ?_
  intro env ⟨k0, k1, k2, k7, k35⟩
  simp only [den_seq, den_region, den_ret, den_skip, den_label, den_exit, den_block, den_scope, den_condV, condV_bool, ops1_cons, ops1_guarded, guardV_bool, guardV_tup, guardD_0, guardD_s, ops1_nil, seqK_normal, seqK_ret, seqK_exit, blockK_normal, blockK_exit, blockK_ret, loopK_normal, loopK_exit, loopK_ret, finK_normal, finK_ret, opK_some, opA_move, opA_assign, opA_pick, pickA_bool, opA_len, opA_bin, opA_un, opA_ia, opA_load, opA_store, opA_conv, opA_make, opA_append, opA_copy, opA_max, opA_min, opA_slice, opA_call, opA_callq, opA_extract, extA_tup, Option.getD_some, Option.getD_none, setO_some, setO_none, ev_tmp, ev_int, ev_bool, ev_nil, ev_fn, upd_at, Option.map_some, Option.map_none, Option.bind_some, List.map_cons, List.map_nil, List.cons_append, List.nil_append, reduceIte, Nat.reduceEqDiff, Nat.reduceAdd, decide_true, decide_false, Bool.true_eq_false, Bool.false_eq_true, k0, k1, k2, k7, k35, c6, c7, c8, p3, k_eql]
  refine forget (fun env => env 0 = encL b1 a ∧ env 1 = encL b2 b ∧ env 2 = encL b3 c ∧ env 7 = encR (val a + val b) ∧ env 45 = .bool true) ⟨by simp only [upd_at, reduceIte, Nat.reduceEqDiff, k0, k1, k2, k7], by simp only [upd_at, reduceIte, Nat.reduceEqDiff, k0, k1, k2, k7], by simp only [upd_at, reduceIte, Nat.reduceEqDiff, k0, k1, k2, k7], by simp only [upd_at, reduceIte, Nat.reduceEqDiff, k0, k1, k2, k7], by simp only [upd_at, reduceIte, Nat.reduceEqDiff, k0, k1, k2, k7]⟩ ?_
  clear k0 k1 k2 k7 k35
  intro env ⟨k0, k1, k2, k7, k35⟩
  simp only [den_seq, den_region, den_ret, den_skip, den_label, den_exit, den_block, den_scope, den_condV, condV_bool, ops1_cons, ops1_guarded, guardV_bool, guardV_tup, guardD_0, guardD_s, ops1_nil, seqK_normal, seqK_ret, seqK_exit, blockK_normal, blockK_exit, blockK_ret, loopK_normal, loopK_exit, loopK_ret, finK_normal, finK_ret, opK_some, opA_move, opA_assign, opA_pick, pickA_bool, opA_len, opA_bin, opA_un, opA_ia, opA_load, opA_store, opA_conv, opA_make, opA_append, opA_copy, opA_max, opA_min, opA_slice, opA_call, opA_callq, opA_extract, extA_tup, Option.getD_some, Option.getD_none, setO_some, setO_none, ev_tmp, ev_int, ev_bool, ev_nil, ev_fn, upd_at, Option.map_some, Option.map_none, Option.bind_some, List.map_cons, List.map_nil, List.cons_append, List.nil_append, reduceIte, Nat.reduceEqDiff, Nat.reduceAdd, decide_true, decide_false, Bool.true_eq_false, Bool.false_eq_true, k0, k1, k2, k7, k35, c9, c10, c11, c12, c13, p4, k_eql]
  refine forget (fun env => env 0 = encL b1 a ∧ env 1 = encL b2 b ∧ env 2 = encL b3 c ∧ env 7 = encR (val a + val b) ∧ env 59 = .bool true) ⟨by simp only [upd_at, reduceIte, Nat.reduceEqDiff, k0, k1, k2, k7], by simp only [upd_at, reduceIte, Nat.reduceEqDiff, k0, k1, k2, k7], by simp only [upd_at, reduceIte, Nat.reduceEqDiff, k0, k1, k2, k7], by simp only [upd_at, reduceIte, Nat.reduceEqDiff, k0, k1, k2, k7], by simp only [upd_at, reduceIte, Nat.reduceEqDiff, k0, k1, k2, k7]⟩ ?_
  clear k0 k1 k2 k7 k35
  intro env ⟨k0, k1, k2, k7, k35⟩
  simp only [den_seq, den_region, den_ret, den_skip, den_label, den_exit, den_block, den_scope, den_condV, condV_bool, ops1_cons, ops1_guarded, guardV_bool, guardV_tup, guardD_0, guardD_s, ops1_nil, seqK_normal, seqK_ret, seqK_exit, blockK_normal, blockK_exit, blockK_ret, loopK_normal, loopK_exit, loopK_ret, finK_normal, finK_ret, opK_some, opA_move, opA_assign, opA_pick, pickA_bool, opA_len, opA_bin, opA_un, opA_ia, opA_load, opA_store, opA_conv, opA_make, opA_append, opA_copy, opA_max, opA_min, opA_slice, opA_call, opA_callq, opA_extract, extA_tup, Option.getD_some, Option.getD_none, setO_some, setO_none, ev_tmp, ev_int, ev_bool, ev_nil, ev_fn, upd_at, Option.map_some, Option.map_none, Option.bind_some, List.map_cons, List.map_nil, List.cons_append, List.nil_append, reduceIte, Nat.reduceEqDiff, Nat.reduceAdd, decide_true, decide_false, Bool.true_eq_false, Bool.false_eq_true, k0, k1, k2, k7, k35, c14, c15, c16, c17, c18, p5, p6, k_eql, opA_one, one22_int, w]
  exact finish_tree _ _ _ _ _ _ (.bool true) _ _ (by simp only [upd_at, reduceIte]) rfl rfl
end Go.Ab
