/- The statement LimbAll, abstractly. Conditions: limbs in range. -/
import Derived.Test.YtlmffjpfjbhliaaAbRR
import Derived.Test.YtlmffjpfjbhliaaAbLawB
import Derived.Test.YtlmffjpfjbhliaaAbL14
namespace Go.Ab
open Go.Proofs
set_option maxRecDepth 100000
set_option linter.unusedSimpArgs false

section
variable {P : Program} {cfg : Cfg} {call : FuncId → List Arg → Option Out}
/-- A call of a function that a variable holds. -/
def callV (cfg : Cfg) (call : FuncId → List Arg → Option Out) (d : Nat) (s : St) (vs : List AV) : AV → Option (AV × St)
  | .fn f caps => callA cfg call d s f (vs ++ caps)
  | _ => none
@[congr] theorem callV_congr {d : Nat} {s s' : St} {vs vs' : List AV} {v v' : AV} (h : v = v') (h1 : s = s') (h2 : vs = vs') : callV cfg call d s vs v = callV cfg call d s' vs' v' := by rw [h, h1, h2]
theorem callV_fn (d : Nat) (s : St) (vs : List AV) (f : FuncId) : callV cfg call d s vs (.fn f []) = callA cfg call d s f (vs ++ []) := rfl
theorem opA_callv (x : Tmp) (xs : Array Operand) (us : Array TypeId) {d : Option Tmp} {ty : TypeId} {pos : String} {af : Array Edge} {g : Option (Nat × Bool)} {t : Nat} {env : Env} {s : St} :
    opA P cfg call false ⟨d, .call ⟨.value (.tmp x), xs, us⟩, ty, pos, af, g⟩ t env s = callV cfg call t s (xs.toList.map (ev env)) (env x) := by
  simp only [opA, ev]
  cases env x <;> rfl
theorem ops1_app (q : Bool) (all : Array Oper) (o : Oper) (l m : List Oper) (K : Kont) (env : Env) (s : St) : ops1 P cfg call q all (List.append (o :: l) m) K env s = ops1 P cfg call q all (o :: List.append l m) K env s := rfl
theorem ops1_app0 (q : Bool) (all : Array Oper) (m : List Oper) (K : Kont) (env : Env) (s : St) : ops1 P cfg call q all (List.append [] m) K env s = ops1 P cfg call q all m K env s := rfl
theorem guardD_app (o : Oper) (l m : List Oper) (j : Nat) (env : Env) : guardD ⟨List.append (o :: l) m⟩ (j + 1) env = guardD ⟨List.append l m⟩ j env := guardD_s _ _ _ _
theorem guardD_appz (d : Nat) (op : Op) (ty : TypeId) (pos : String) (af : Array Edge) (g : Option (Nat × Bool)) (l m : List Oper) (env : Env) : guardD ⟨List.append (⟨some d, op, ty, pos, af, g⟩ :: l) m⟩ 0 env = env d := rfl
theorem guardD_app0 (m : List Oper) (j : Nat) (env : Env) : guardD ⟨List.append [] m⟩ j env = guardD ⟨m⟩ j env := rfl
end
/-- The quotient, and what is left, as the reference gives them. -/
def qS (x y : Nat) : AV := if y = 0 then .sl [] 0 .tight else encF (x / y)
def rS (x y : Nat) : AV := if y = 0 then .sl [] 0 .tight else encQ (blen x) (x % y)
theorem divR_eq (x y : Nat) : divR x y = .tup [qS x y, rS x y] := by
  unfold divR qS rS; split <;> rfl
theorem sh_nil0 : Sh (.sl [] 0 .tight) (digs 0) := by rw [digs_0]; exact ⟨_, rfl⟩
theorem qS_sh (x y : Nat) : Sh (qS x y) (digs (if y = 0 then 0 else x / y)) := by
  unfold qS; split
  · exact sh_nil0
  · exact sh_L _ _
theorem rS_sh (x y : Nat) : Sh (rS x y) (digs (if y = 0 then 0 else x % y)) := by
  unfold rS; split
  · exact sh_nil0
  · refine encQ_sh _ _ fun h => ?_
    have : x = 0 := by
      by_cases hx : x = 0
      · exact hx
      · have := blen_pos x hx; omega
    subst this; exact Nat.zero_mod _
theorem rcDiv (n d : Nat) (hn : 100000 ≤ n) (D : Nat) (s : St) (b b' : Bool) (l m : List Nat) (hl : Limbs l) (hm : Limbs m) (hll : l.length ≤ 900) (hml : m.length ≤ 900) :
    callA cfg0 (evalFn Try.prog cfg0 n (d+4)) D s 23 [encL b l, encL b' m] = some (.tup [qS (val l) (val m), rS (val l) (val m)], s) := by
  rw [← divR_eq]
  exact callA_L2 _ _ _ _ _ _ _ _ _ (rdiv_eq n d b b' l m hl hm hn hll hml)

set_option maxHeartbeats 4000000 in
theorem all_eq (n d : Nat) (hn : 100000 ≤ n) (b1 b2 : Bool) (a b : List Nat) (z : Int) (hz : z ≤ 9223372036854775807) (ha : Limbs a) (hb : Limbs b) : evalFn Try.prog cfg0 n (d+6) 7 [.tree (encL b1 a), .tree (encL b2 b), .tree (.int .i64 z)] = some (.tree (.bool true), [[], [], []]) := by
  rw [evalFn_go _ Try.func7 (by unfold Try.f7; rfl) (by unfold Try.f7; decide) (Nat.le_of_ble_eq_true (by unfold Try.f7; rfl)) (by kernel_rfl)]
  have w := cAwake n (d + 2) hn
  have f := cFew n (d + 4) b1 b2 a b
  by_cases h1 : (a.length : Int) ≤ 30
  rotate_left
  · simp only [den_seq, den_region, den_ret, den_skip, den_label, den_exit, den_block, den_scope, den_condV, condV_bool, ops1_cons, ops1_guarded, guardV_bool, guardV_tup, guardD_0, guardD_s, ops1_nil, seqK_normal, seqK_ret, seqK_exit, blockK_normal, blockK_exit, blockK_ret, loopK_normal, loopK_exit, loopK_ret, finK_normal, finK_ret, opK_some, opA_move, opA_assign, opA_pick, pickA_bool, opA_len, opA_bin, opA_un, opA_ia, opA_load, opA_store, opA_conv, opA_make, opA_append, opA_copy, opA_max, opA_min, opA_slice, opA_call, opA_callq, opA_extract, extA_tup, Option.getD_some, Option.getD_none, setO_some, setO_none, ev_tmp, ev_int, ev_bool, ev_nil, ev_fn, upd_at, Option.map_some, Option.map_none, Option.bind_some, List.map_cons, List.map_nil, List.cons_append, List.nil_append, reduceIte, Nat.reduceEqDiff, Nat.reduceAdd, decide_true, decide_false, Bool.true_eq_false, Bool.false_eq_true, env0, List.getElem?_cons_zero, List.getElem?_cons_succ, len22, lenN22, k_lss, k_leq, k_gtr, k_geq, k_eql, k_neq, ia22, ld31, conv31_40, conv40_31, f, h1, unA_not, Bool.false_and, Bool.not_false, w]
    exact finish_tree _ _ _ _ _ _ (.bool true) _ _ (by simp only [upd_at, reduceIte]) rfl rfl
  by_cases h2 : (b.length : Int) ≤ 30
  rotate_left
  · simp only [den_seq, den_region, den_ret, den_skip, den_label, den_exit, den_block, den_scope, den_condV, condV_bool, ops1_cons, ops1_guarded, guardV_bool, guardV_tup, guardD_0, guardD_s, ops1_nil, seqK_normal, seqK_ret, seqK_exit, blockK_normal, blockK_exit, blockK_ret, loopK_normal, loopK_exit, loopK_ret, finK_normal, finK_ret, opK_some, opA_move, opA_assign, opA_pick, pickA_bool, opA_len, opA_bin, opA_un, opA_ia, opA_load, opA_store, opA_conv, opA_make, opA_append, opA_copy, opA_max, opA_min, opA_slice, opA_call, opA_callq, opA_extract, extA_tup, Option.getD_some, Option.getD_none, setO_some, setO_none, ev_tmp, ev_int, ev_bool, ev_nil, ev_fn, upd_at, Option.map_some, Option.map_none, Option.bind_some, List.map_cons, List.map_nil, List.cons_append, List.nil_append, reduceIte, Nat.reduceEqDiff, Nat.reduceAdd, decide_true, decide_false, Bool.true_eq_false, Bool.false_eq_true, env0, List.getElem?_cons_zero, List.getElem?_cons_succ, len22, lenN22, k_lss, k_leq, k_gtr, k_geq, k_eql, k_neq, ia22, ld31, conv31_40, conv40_31, f, h1, h2, unA_not, Bool.and_false, Bool.not_false, w]
    exact finish_tree _ _ _ _ _ _ (.bool true) _ _ (by simp only [upd_at, reduceIte]) rfl rfl
  have va : val a < B ^ 30 := Nat.lt_of_lt_of_le (val_lt a ha) (Nat.pow_le_pow_right (by decide) (by omega))
  have vb : val b < B ^ 30 := Nat.lt_of_lt_of_le (val_lt b hb) (Nat.pow_le_pow_right (by decide) (by omega))
  obtain ⟨x, st1, t1, _, e7⟩ := cLimbs n (d + 4) (sh_L b1 a) (by omega) 20 dead
  obtain ⟨y, st2, t2, _, e8⟩ := cLimbs n (d + 4) (sh_L b2 b) (by omega) 22 st1
  have hax : a.length ≤ 900 := by omega
  have hbx : b.length ≤ 900 := by omega
  have na := num_L b1 a ha (by omega)
  have nb := num_L b2 b hb (by omega)
  have nx := num_S e7 ha (by omega)
  have ny := num_S e8 hb (by omega)
  have c1 := fun D s => cDivS n d hn D s e7 e8 ha hb hax hbx
  have c2 := fun D s => rcDiv n (d + 1) hn D s b1 b2 a b ha hb hax hbx
  have k1 := fun D s => cNorm n (d + 4) hn D s nx
  have j1 := fun D s => rcNorm n (d + 4) hn D s na
  have k2 := fun D s => cCmp n (d + 2) hn D s nx ny
  have j2 := fun D s => rcCmp n (d + 3) hn D s na nb
  have k3 := fun D s => cAdd n (d + 3) hn D s nx ny
  have j3 := fun D s => rcAdd n (d + 3) hn D s na nb
  have k4 := fun D s => cSub n (d + 1) hn D s nx ny
  have j4 := fun D s => rcSub n (d + 2) hn D s na nb
  have k5 := fun D s => cMul n (d + 3) hn D s nx ny
  have j5 := fun D s => rcMul n (d + 3) hn D s na nb
  have k6 := fun D s => cShl n (d + 3) hn D s nx z
  have j6 := fun D s => rcShl n (d + 3) hn D s na z
  have k7 := fun D s => cShr n (d + 3) hn D s nx z hz
  have j7 := fun D s => rcShr n (d + 3) hn D s na z hz
  have k8 := fun D s => cLen n (d + 3) hn D s nx
  have j8 := fun D s => rcLen n (d + 3) hn D s na
  have hB : B ^ 30 * 4 ≤ B ^ 31 := by rw [show (31 : Nat) = 30 + 1 from rfl, Nat.pow_succ]; exact Nat.mul_le_mul_left _ (by decide)
  have v3 : val a + val b < B ^ 31 := by generalize B ^ 31 = q at *; generalize B ^ 30 = p at *; omega
  have v4 : val a - val b < B ^ 30 := by generalize B ^ 30 = p at *; omega
  have v5 : val a * val b < B ^ 60 := mul_B _ _ 30 30 60 va (Nat.le_of_lt vb) rfl
  have hsh : shn z ≤ 4096 := by simp only [shn]; split <;> omega
  have v6 : val a * 2 ^ shn z < B ^ 158 := mul_B _ _ 30 128 158 va (pow2_B _ 128 (by omega)) rfl
  have v7 : val a / 2 ^ z.toNat < B ^ 30 := Nat.lt_of_le_of_lt (Nat.div_le_self _ _) va
  have vq : (if val b = 0 then 0 else val a / val b) < B ^ 30 := by
    split
    · exact Nat.pow_pos (by decide)
    · exact Nat.lt_of_le_of_lt (Nat.div_le_self _ _) va
  have vr : (if val b = 0 then 0 else val a % val b) < B ^ 30 := by
    split
    · exact Nat.pow_pos (by decide)
    · exact Nat.lt_of_le_of_lt (Nat.mod_le _ _) va
  have sm : ∀ (u k : Nat) (w w' : AV) (D : Nat) (s : St), k ≤ 1000 → u < B ^ k → Sh w (digs u) → Sh w' (digs u) → callA cfg0 (evalFn Try.prog cfg0 n (d+5)) D s 15 [w, w'] = some (.bool true, s) := fun u k w w' D s hk hu h h' => cSame n (d + 4) hn h h' (Nat.le_trans (digs_len u k hu) hk) D s
  have s1 := fun D s => sm _ 30 (encR (val a)) (encF (val a)) D s (by decide) va (sh_L _ _) (sh_L _ _)
  have s3 := fun D s => sm _ 31 (encR (val a + val b)) (encF (val a + val b)) D s (by decide) v3 (sh_L _ _) (sh_L _ _)
  have s4 := fun D s => sm _ 30 (encR (val a - val b)) (encS (val a) (val b)) D s (by decide) v4 (sh_L _ _) (encS_sh _ _)
  have s5 := fun D s => sm _ 60 (encR (val a * val b)) (encF (val a * val b)) D s (by decide) v5 (sh_L _ _) (sh_L _ _)
  have s6 := fun D s => sm _ 158 (encR (val a * 2 ^ shn z)) (encF (val a * 2 ^ shn z)) D s (by decide) v6 (sh_L _ _) (sh_L _ _)
  have s7 := fun D s => sm _ 30 (encR (val a / 2 ^ z.toNat)) (encF (val a / 2 ^ z.toNat)) D s (by decide) v7 (sh_L _ _) (sh_L _ _)
  have sq := fun D s => sm _ 30 (encR (if val b = 0 then 0 else val a / val b)) (qS (val a) (val b)) D s (by decide) vq (sh_L _ _) (qS_sh _ _)
  have sr := fun D s => sm _ 30 (encR (if val b = 0 then 0 else val a % val b)) (rS (val a) (val b)) D s (by decide) vr (sh_L _ _) (rS_sh _ _)
  have sx := fun D s => cSame n (d + 4) hn e7 (sh_L b1 a) (by omega) D s
  have sy := fun D s => cSame n (d + 4) hn e8 (sh_L b2 b) (by omega) D s
  have pc : (cmpZ (val a) (val b) == cmpZ (val a) (val b)) = true := beq_self_eq_true _
  have pl : (((blen (val a) : Nat) : Int) == ((blen (val a) : Nat) : Int)) = true := beq_self_eq_true _
  clear va vb hB v3 v4 v5 v6 v7 vq vr sm na nb nx ny hsh
  generalize cmpZ (val a) (val b) = gc at *
  generalize ((blen (val a) : Nat) : Int) = gl at *
  generalize encR (val a) = g1 at *
  generalize encF (val a) = g1' at *
  generalize encR (val a + val b) = g3 at *
  generalize encF (val a + val b) = g3' at *
  generalize encR (val a - val b) = g4 at *
  generalize encS (val a) (val b) = g4' at *
  generalize encR (val a * val b) = g5 at *
  generalize encF (val a * val b) = g5' at *
  generalize encR (val a * 2 ^ shn z) = g6 at *
  generalize encF (val a * 2 ^ shn z) = g6' at *
  generalize encR (val a / 2 ^ z.toNat) = g7 at *
  generalize encF (val a / 2 ^ z.toNat) = g7' at *
  generalize encR (if val b = 0 then 0 else val a / val b) = gq at *
  generalize encR (if val b = 0 then 0 else val a % val b) = gr at *
  generalize qS (val a) (val b) = gq' at *
  generalize rS (val a) (val b) = gr' at *
  simp only [den_seq, den_region, den_ret, den_skip, den_label, den_exit, den_block, den_scope, den_condV, condV_bool, ops1_cons, ops1_guarded, guardV_bool, guardV_tup, guardD_0, guardD_s, ops1_nil, seqK_normal, seqK_ret, seqK_exit, blockK_normal, blockK_exit, blockK_ret, loopK_normal, loopK_exit, loopK_ret, finK_normal, finK_ret, opK_some, opA_move, opA_assign, opA_pick, pickA_bool, opA_len, opA_bin, opA_un, opA_ia, opA_load, opA_store, opA_conv, opA_make, opA_append, opA_copy, opA_max, opA_min, opA_slice, opA_call, opA_callq, opA_extract, extA_tup, Option.getD_some, Option.getD_none, setO_some, setO_none, ev_tmp, ev_int, ev_bool, ev_nil, ev_fn, upd_at, Option.map_some, Option.map_none, Option.bind_some, List.map_cons, List.map_nil, List.cons_append, List.nil_append, reduceIte, Nat.reduceEqDiff, Nat.reduceAdd, decide_true, decide_false, Bool.true_eq_false, Bool.false_eq_true, len22, lenN22, k_lss, k_leq, k_gtr, k_geq, k_eql, k_neq, ia22, ld31, conv31_40, conv40_31, opA_callv, callV_fn, ops1_app, ops1_app0, guardD_app, guardD_appz, guardD_app0, env0, List.getElem?_cons_zero, List.getElem?_cons_succ, st0_3, f, h1, h2, unA_not, Bool.and_self, Bool.not_true, t1, t2, c1, c2, tup_0, tup_1, k1, j1, s1]
  clear e7 e8
  refine forget (fun env => env 0 = encL b1 a ∧ env 1 = encL b2 b ∧ env 2 = .int .i64 z ∧ env 7 = x ∧ env 8 = y ∧ env 9 = gq ∧ env 10 = gr ∧ env 11 = gq' ∧ env 12 = gr' ∧ env 13 = .fn 15 [] ∧ env 41 = .bool true) ⟨by simp only [upd_at, reduceIte, Nat.reduceEqDiff, env0, List.getElem?_cons_zero, List.getElem?_cons_succ], by simp only [upd_at, reduceIte, Nat.reduceEqDiff, env0, List.getElem?_cons_zero, List.getElem?_cons_succ], by simp only [upd_at, reduceIte, Nat.reduceEqDiff, env0, List.getElem?_cons_zero, List.getElem?_cons_succ], by simp only [upd_at, reduceIte, Nat.reduceEqDiff, env0, List.getElem?_cons_zero, List.getElem?_cons_succ], by simp only [upd_at, reduceIte, Nat.reduceEqDiff, env0, List.getElem?_cons_zero, List.getElem?_cons_succ], by simp only [upd_at, reduceIte, Nat.reduceEqDiff, env0, List.getElem?_cons_zero, List.getElem?_cons_succ], by simp only [upd_at, reduceIte, Nat.reduceEqDiff, env0, List.getElem?_cons_zero, List.getElem?_cons_succ], by simp only [upd_at, reduceIte, Nat.reduceEqDiff, env0, List.getElem?_cons_zero, List.getElem?_cons_succ], by simp only [upd_at, reduceIte, Nat.reduceEqDiff, env0, List.getElem?_cons_zero, List.getElem?_cons_succ], by simp only [upd_at, reduceIte, Nat.reduceEqDiff, env0, List.getElem?_cons_zero, List.getElem?_cons_succ], by simp only [upd_at, reduceIte, Nat.reduceEqDiff, env0, List.getElem?_cons_zero, List.getElem?_cons_succ]⟩ ?_
  intro env ⟨e0, e1, e2, e7, e8, e9, e10, e11, e12, e13, eg⟩
  simp only [den_seq, den_region, den_ret, den_skip, den_label, den_exit, den_block, den_scope, den_condV, condV_bool, ops1_cons, ops1_guarded, guardV_bool, guardV_tup, guardD_0, guardD_s, ops1_nil, seqK_normal, seqK_ret, seqK_exit, blockK_normal, blockK_exit, blockK_ret, loopK_normal, loopK_exit, loopK_ret, finK_normal, finK_ret, opK_some, opA_move, opA_assign, opA_pick, pickA_bool, opA_len, opA_bin, opA_un, opA_ia, opA_load, opA_store, opA_conv, opA_make, opA_append, opA_copy, opA_max, opA_min, opA_slice, opA_call, opA_callq, opA_extract, extA_tup, Option.getD_some, Option.getD_none, setO_some, setO_none, ev_tmp, ev_int, ev_bool, ev_nil, ev_fn, upd_at, Option.map_some, Option.map_none, Option.bind_some, List.map_cons, List.map_nil, List.cons_append, List.nil_append, reduceIte, Nat.reduceEqDiff, Nat.reduceAdd, decide_true, decide_false, Bool.true_eq_false, Bool.false_eq_true, len22, lenN22, k_lss, k_leq, k_gtr, k_geq, k_eql, k_neq, ia22, ld31, conv31_40, conv40_31, opA_callv, callV_fn, ops1_app, ops1_app0, guardD_app, guardD_appz, guardD_app0, e0, e1, e2, e7, e8, e9, e10, e11, e12, e13, eg, k2, j2, pc, k3, j3, s3]
  refine forget (fun env => env 0 = encL b1 a ∧ env 1 = encL b2 b ∧ env 2 = .int .i64 z ∧ env 7 = x ∧ env 8 = y ∧ env 9 = gq ∧ env 10 = gr ∧ env 11 = gq' ∧ env 12 = gr' ∧ env 13 = .fn 15 [] ∧ env 60 = .bool true ∧ env 61 = .fn 15 []) ⟨by simp only [upd_at, reduceIte, Nat.reduceEqDiff, e0, e1, e2, e7, e8, e9, e10, e11, e12, e13, eg], by simp only [upd_at, reduceIte, Nat.reduceEqDiff, e0, e1, e2, e7, e8, e9, e10, e11, e12, e13, eg], by simp only [upd_at, reduceIte, Nat.reduceEqDiff, e0, e1, e2, e7, e8, e9, e10, e11, e12, e13, eg], by simp only [upd_at, reduceIte, Nat.reduceEqDiff, e0, e1, e2, e7, e8, e9, e10, e11, e12, e13, eg], by simp only [upd_at, reduceIte, Nat.reduceEqDiff, e0, e1, e2, e7, e8, e9, e10, e11, e12, e13, eg], by simp only [upd_at, reduceIte, Nat.reduceEqDiff, e0, e1, e2, e7, e8, e9, e10, e11, e12, e13, eg], by simp only [upd_at, reduceIte, Nat.reduceEqDiff, e0, e1, e2, e7, e8, e9, e10, e11, e12, e13, eg], by simp only [upd_at, reduceIte, Nat.reduceEqDiff, e0, e1, e2, e7, e8, e9, e10, e11, e12, e13, eg], by simp only [upd_at, reduceIte, Nat.reduceEqDiff, e0, e1, e2, e7, e8, e9, e10, e11, e12, e13, eg], by simp only [upd_at, reduceIte, Nat.reduceEqDiff, e0, e1, e2, e7, e8, e9, e10, e11, e12, e13, eg], by simp only [upd_at, reduceIte, Nat.reduceEqDiff, e0, e1, e2, e7, e8, e9, e10, e11, e12, e13, eg], by simp only [upd_at, reduceIte, Nat.reduceEqDiff, e0, e1, e2, e7, e8, e9, e10, e11, e12, e13, eg]⟩ ?_
  clear e0 e1 e2 e7 e8 e9 e10 e11 e12 e13 eg
  intro env ⟨e0, e1, e2, e7, e8, e9, e10, e11, e12, e13, eg, ef⟩
  simp only [den_seq, den_region, den_ret, den_skip, den_label, den_exit, den_block, den_scope, den_condV, condV_bool, ops1_cons, ops1_guarded, guardV_bool, guardV_tup, guardD_0, guardD_s, ops1_nil, seqK_normal, seqK_ret, seqK_exit, blockK_normal, blockK_exit, blockK_ret, loopK_normal, loopK_exit, loopK_ret, finK_normal, finK_ret, opK_some, opA_move, opA_assign, opA_pick, pickA_bool, opA_len, opA_bin, opA_un, opA_ia, opA_load, opA_store, opA_conv, opA_make, opA_append, opA_copy, opA_max, opA_min, opA_slice, opA_call, opA_callq, opA_extract, extA_tup, Option.getD_some, Option.getD_none, setO_some, setO_none, ev_tmp, ev_int, ev_bool, ev_nil, ev_fn, upd_at, Option.map_some, Option.map_none, Option.bind_some, List.map_cons, List.map_nil, List.cons_append, List.nil_append, reduceIte, Nat.reduceEqDiff, Nat.reduceAdd, decide_true, decide_false, Bool.true_eq_false, Bool.false_eq_true, len22, lenN22, k_lss, k_leq, k_gtr, k_geq, k_eql, k_neq, ia22, ld31, conv31_40, conv40_31, opA_callv, callV_fn, ops1_app, ops1_app0, guardD_app, guardD_appz, guardD_app0, e0, e1, e2, e7, e8, e9, e10, e11, e12, e13, eg, ef, k4, j4, s4, k5, j5, s5, sq]
  refine forget (fun env => env 0 = encL b1 a ∧ env 1 = encL b2 b ∧ env 2 = .int .i64 z ∧ env 7 = x ∧ env 8 = y ∧ env 9 = gq ∧ env 10 = gr ∧ env 11 = gq' ∧ env 12 = gr' ∧ env 13 = .fn 15 [] ∧ env 86 = .bool true) ⟨by simp only [upd_at, reduceIte, Nat.reduceEqDiff, e0, e1, e2, e7, e8, e9, e10, e11, e12, e13, eg, ef], by simp only [upd_at, reduceIte, Nat.reduceEqDiff, e0, e1, e2, e7, e8, e9, e10, e11, e12, e13, eg, ef], by simp only [upd_at, reduceIte, Nat.reduceEqDiff, e0, e1, e2, e7, e8, e9, e10, e11, e12, e13, eg, ef], by simp only [upd_at, reduceIte, Nat.reduceEqDiff, e0, e1, e2, e7, e8, e9, e10, e11, e12, e13, eg, ef], by simp only [upd_at, reduceIte, Nat.reduceEqDiff, e0, e1, e2, e7, e8, e9, e10, e11, e12, e13, eg, ef], by simp only [upd_at, reduceIte, Nat.reduceEqDiff, e0, e1, e2, e7, e8, e9, e10, e11, e12, e13, eg, ef], by simp only [upd_at, reduceIte, Nat.reduceEqDiff, e0, e1, e2, e7, e8, e9, e10, e11, e12, e13, eg, ef], by simp only [upd_at, reduceIte, Nat.reduceEqDiff, e0, e1, e2, e7, e8, e9, e10, e11, e12, e13, eg, ef], by simp only [upd_at, reduceIte, Nat.reduceEqDiff, e0, e1, e2, e7, e8, e9, e10, e11, e12, e13, eg, ef], by simp only [upd_at, reduceIte, Nat.reduceEqDiff, e0, e1, e2, e7, e8, e9, e10, e11, e12, e13, eg, ef], by simp only [upd_at, reduceIte, Nat.reduceEqDiff, e0, e1, e2, e7, e8, e9, e10, e11, e12, e13, eg, ef]⟩ ?_
  clear e0 e1 e2 e7 e8 e9 e10 e11 e12 e13 eg ef
  intro env ⟨e0, e1, e2, e7, e8, e9, e10, e11, e12, e13, eg⟩
  simp only [den_seq, den_region, den_ret, den_skip, den_label, den_exit, den_block, den_scope, den_condV, condV_bool, ops1_cons, ops1_guarded, guardV_bool, guardV_tup, guardD_0, guardD_s, ops1_nil, seqK_normal, seqK_ret, seqK_exit, blockK_normal, blockK_exit, blockK_ret, loopK_normal, loopK_exit, loopK_ret, finK_normal, finK_ret, opK_some, opA_move, opA_assign, opA_pick, pickA_bool, opA_len, opA_bin, opA_un, opA_ia, opA_load, opA_store, opA_conv, opA_make, opA_append, opA_copy, opA_max, opA_min, opA_slice, opA_call, opA_callq, opA_extract, extA_tup, Option.getD_some, Option.getD_none, setO_some, setO_none, ev_tmp, ev_int, ev_bool, ev_nil, ev_fn, upd_at, Option.map_some, Option.map_none, Option.bind_some, List.map_cons, List.map_nil, List.cons_append, List.nil_append, reduceIte, Nat.reduceEqDiff, Nat.reduceAdd, decide_true, decide_false, Bool.true_eq_false, Bool.false_eq_true, len22, lenN22, k_lss, k_leq, k_gtr, k_geq, k_eql, k_neq, ia22, ld31, conv31_40, conv40_31, opA_callv, callV_fn, ops1_app, ops1_app0, guardD_app, guardD_appz, guardD_app0, e0, e1, e2, e7, e8, e9, e10, e11, e12, e13, eg, sr, k6, j6, s6]
  refine forget (fun env => env 0 = encL b1 a ∧ env 1 = encL b2 b ∧ env 2 = .int .i64 z ∧ env 7 = x ∧ env 8 = y ∧ env 9 = gq ∧ env 10 = gr ∧ env 11 = gq' ∧ env 12 = gr' ∧ env 13 = .fn 15 [] ∧ env 102 = .bool true ∧ env 103 = .fn 15 []) ⟨by simp only [upd_at, reduceIte, Nat.reduceEqDiff, e0, e1, e2, e7, e8, e9, e10, e11, e12, e13, eg], by simp only [upd_at, reduceIte, Nat.reduceEqDiff, e0, e1, e2, e7, e8, e9, e10, e11, e12, e13, eg], by simp only [upd_at, reduceIte, Nat.reduceEqDiff, e0, e1, e2, e7, e8, e9, e10, e11, e12, e13, eg], by simp only [upd_at, reduceIte, Nat.reduceEqDiff, e0, e1, e2, e7, e8, e9, e10, e11, e12, e13, eg], by simp only [upd_at, reduceIte, Nat.reduceEqDiff, e0, e1, e2, e7, e8, e9, e10, e11, e12, e13, eg], by simp only [upd_at, reduceIte, Nat.reduceEqDiff, e0, e1, e2, e7, e8, e9, e10, e11, e12, e13, eg], by simp only [upd_at, reduceIte, Nat.reduceEqDiff, e0, e1, e2, e7, e8, e9, e10, e11, e12, e13, eg], by simp only [upd_at, reduceIte, Nat.reduceEqDiff, e0, e1, e2, e7, e8, e9, e10, e11, e12, e13, eg], by simp only [upd_at, reduceIte, Nat.reduceEqDiff, e0, e1, e2, e7, e8, e9, e10, e11, e12, e13, eg], by simp only [upd_at, reduceIte, Nat.reduceEqDiff, e0, e1, e2, e7, e8, e9, e10, e11, e12, e13, eg], by simp only [upd_at, reduceIte, Nat.reduceEqDiff, e0, e1, e2, e7, e8, e9, e10, e11, e12, e13, eg], by simp only [upd_at, reduceIte, Nat.reduceEqDiff, e0, e1, e2, e7, e8, e9, e10, e11, e12, e13, eg]⟩ ?_
  clear e0 e1 e2 e7 e8 e9 e10 e11 e12 e13 eg
  intro env ⟨e0, e1, e2, e7, e8, e9, e10, e11, e12, e13, eg, ef⟩
  simp only [den_seq, den_region, den_ret, den_skip, den_label, den_exit, den_block, den_scope, den_condV, condV_bool, ops1_cons, ops1_guarded, guardV_bool, guardV_tup, guardD_0, guardD_s, ops1_nil, seqK_normal, seqK_ret, seqK_exit, blockK_normal, blockK_exit, blockK_ret, loopK_normal, loopK_exit, loopK_ret, finK_normal, finK_ret, opK_some, opA_move, opA_assign, opA_pick, pickA_bool, opA_len, opA_bin, opA_un, opA_ia, opA_load, opA_store, opA_conv, opA_make, opA_append, opA_copy, opA_max, opA_min, opA_slice, opA_call, opA_callq, opA_extract, extA_tup, Option.getD_some, Option.getD_none, setO_some, setO_none, ev_tmp, ev_int, ev_bool, ev_nil, ev_fn, upd_at, Option.map_some, Option.map_none, Option.bind_some, List.map_cons, List.map_nil, List.cons_append, List.nil_append, reduceIte, Nat.reduceEqDiff, Nat.reduceAdd, decide_true, decide_false, Bool.true_eq_false, Bool.false_eq_true, len22, lenN22, k_lss, k_leq, k_gtr, k_geq, k_eql, k_neq, ia22, ld31, conv31_40, conv40_31, opA_callv, callV_fn, ops1_app, ops1_app0, guardD_app, guardD_appz, guardD_app0, e0, e1, e2, e7, e8, e9, e10, e11, e12, e13, eg, ef, k7, j7, s7, k8, j8, pl, sx, sy, w]
  exact finish_tree _ _ _ _ _ _ (.bool true) _ _ (by simp only [upd_at, reduceIte]) rfl rfl
end Go.Ab
