/- What the program's Add, Sub compute. Conditions: limbs in range, not too many. -/
import Derived.Test.YtlmffjpfjbhliaaAbL4
import Derived.Test.YtlmffjpfjbhliaaAbM3
namespace Go.Ab
open Go.Proofs
set_option maxRecDepth 100000
set_option linter.unusedSimpArgs false

/-- A slice of one limb. -/
def one22 (v : AV) : Option AV := (fillA (fun i => some (i * 1, 1)) (rep 1 [AV.int .u32 0]) [(0, v)]).map (AV.sl · 1 .tight)
theorem one22_int (z : Int) : one22 (.int .u32 z) = some (.sl [.int .u32 z] 1 .tight) := rfl
theorem opA_one (call : FuncId → List Arg → Option Out) (q : Bool) (d : Option Tmp) (ty : TypeId) (pos : String) (af : Array Edge) (g : Option (Nat × Bool)) (t : Nat) (env : Env) (s : St) (x : Operand) :
    opA Try.prog cfg0 call q ⟨d, .buildSlice 22 1 #[(0, x)], ty, pos, af, g⟩ t env s = (one22 (ev env x)).map (·, s) := by
  rw [opA_bs]
  simp only [tk22, esz31, zero31, Option.bind_some, List.map_cons, List.map_nil]
  rfl
/-- A list that is being made by appends: its value, and the room behind it. -/
def Hold (s : St) (v : AV) (o : List Nat) : Prop := (o = [] ∧ v = .sl [] 0 .tight) ∨ (∃ p t, v = .sl (encC o) o.length (.tok p t) ∧ s p = ⟨t, .tok 1⟩) ∨ ∃ p t, v = .own p t 0 o.length 1 ∧ s p = ⟨t, .buf (encC o)⟩
theorem hold_nil (s : St) : Hold s (.sl [] 0 .tight) [] := .inl ⟨rfl, rfl⟩
theorem append22t (d : Nat) (s : St) (v : AV) (o m : List Nat) (b : Bool) (h : Hold s v o) (hl : o.length + m.length ≤ 10000000) :
    ∃ s' p t, appendA Try.prog #[22, 22] d s v (encL b m) = some (.sl (encC (o ++ m)) (o ++ m).length (.tok p t), s') ∧ s' p = ⟨t, .tok 1⟩ := by
  have e1 : (#[22, 22] : Array TypeId)[0]? = some 22 := rfl
  have e2 : (#[22, 22] : Array TypeId)[1]? = some 22 := rfl
  have hc : (o.length + m.length) * 4 ≤ 140737488355328 ∧ o.length + m.length ≤ 9223372036854775807 ∧ (zeroOf Try.prog 31).map List.length = some 1 := ⟨by omega, by omega, by rw [zero31]; rfl⟩
  rcases h with ⟨rfl, rfl⟩ | ⟨p, t, rfl, hp⟩ | ⟨p, t, rfl, hp⟩
  · refine ⟨upd s d ⟨(s d).t + 1, .tok 1⟩, d, (s d).t + 1, ?_, by simp [upd]⟩
    simp only [appendA, e1, e2, Option.map_some, tk22, esz31, Option.bind_some, moreA, encL, encC_len, Nat.mul_one, if_true, baseA, by31, List.length_nil, Nat.zero_mul, List.nil_append, Nat.zero_add]
    rw [if_pos (by simpa using hc)]
  · refine ⟨upd (upd s p ⟨t, .dead⟩) d ⟨((upd s p ⟨t, .dead⟩) d).t + 1, .tok 1⟩, d, ((upd s p ⟨t, .dead⟩) d).t + 1, ?_, by simp [upd]⟩
    simp only [appendA, e1, e2, Option.map_some, tk22, esz31, Option.bind_some, moreA, encL, encC_len, Nat.mul_one, if_true, baseA, by31, hp, and_self]
    rw [if_pos hc, encC_app, List.length_append]
  · refine ⟨upd (upd s p ⟨t, .frz (encC o)⟩) d ⟨((upd s p ⟨t, .frz (encC o)⟩) d).t + 1, .tok 1⟩, d, ((upd s p ⟨t, .frz (encC o)⟩) d).t + 1, ?_, by simp [upd]⟩
    simp only [appendA, e1, e2, Option.map_some, tk22, esz31, Option.bind_some, moreA, encL, encC_len, Nat.mul_one, if_true, baseA, by31, hp, and_self, Nat.zero_add, List.drop_zero]
    rw [if_pos hc, encC_app, List.length_append]
theorem append22 (d : Nat) (s : St) (v : AV) (o m : List Nat) (b : Bool) (h : Hold s v o) (hl : o.length + m.length ≤ 10000000) :
    ∃ v' s', appendA Try.prog #[22, 22] d s v (encL b m) = some (v', s') ∧ Hold s' v' (o ++ m) := by
  obtain ⟨s', p, t, e, hp⟩ := append22t d s v o m b h hl
  exact ⟨_, s', e, .inr (.inl ⟨p, t, rfl, hp⟩)⟩
theorem norm_hold (n d : Nat) (s : St) (v : AV) (o : List Nat) (h : Hold s v o) (ho : Limbs o) (hn : o.length < n) (hl : o.length ≤ 1000000) (D : Nat) : ∃ s', callA cfg0 (evalFn Try.prog cfg0 n (d + 1)) D s 16 [v] = some (encR (val o), s') := by
  rcases h with ⟨rfl, rfl⟩ | ⟨p, t, rfl, hp⟩ | ⟨p, t, rfl, hp⟩
  · exact ⟨s, callA_L1 _ D s 16 true [] _ (norm_eq n d true [] ho hn hl)⟩
  · have := norm_eq n d false o ho hn hl
    rw [show encL false o = .sl (encC o) o.length .loose from rfl] at this
    refine ⟨s, ?_⟩
    simp [callA, argsA, argA, givesL, lendsL, givesOf, lendsOf, this, backA, resA, show ∀ f j, cfg0.lin f j = false from fun _ _ => rfl]
  · have := norm_eq n d false o ho hn hl
    rw [show encL false o = .sl (encC o) o.length .loose from rfl] at this
    have hf : flatR (.tree (encR (val o))) = false := by rw [encR]; cases decide (val o = 0) <;> rfl
    refine ⟨frzAt s p, ?_⟩
    have ht : (encC o).take o.length = encC o := List.take_of_length_le (by rw [encC_len]; exact Nat.le_refl _)
    have hle : 0 + o.length * 1 ≤ (encC o).length := by rw [encC_len]; omega
    simp [callA, argsA, argA, cellsAt, hp, ht, encC_len, givesL, lendsL, givesOf, lendsOf, this, hf, backA, resA, show ∀ f j, cfg0.lin f j = false from fun _ _ => rfl]
theorem norm_call (n d : Nat) (b : Bool) (o : List Nat) (ho : Limbs o) (hn : o.length < n) (hl : o.length ≤ 1000000) (D : Nat) (s : St) : callA cfg0 (evalFn Try.prog cfg0 n (d + 1)) D s 16 [encL b o] = some (encR (val o), s) :=
  callA_L1 _ D s 16 b o _ (norm_eq n d b o ho hn hl)
theorem settle_L (s : St) (b : Bool) (l : List Nat) : settle s (encL b l) = some (encL b l, s) := by cases b <;> rfl
theorem fin_L (k : Bool) (np : Nat) (s : St) (b : Bool) (l : List Nat) : finish1 k np s (encL b l) = some (.tree (encL b l), s) := by cases b <;> rfl
theorem finish_L (k : Bool) (xs : List Arg) (t : Nat) (env : Env) (s : St) (b : Bool) (l : List Nat) (os : List (List AV)) (hv : env t = encL b l) (ho : outsA s 0 xs = some os) :
    finish k xs #[.tmp t] env s = some (.tree (encL b l), os) := finish_tree _ _ _ _ _ _ _ _ _ hv (fin_L k _ s b l) ho
theorem finish_R (k : Bool) (xs : List Arg) (t : Nat) (env : Env) (s : St) (v : Nat) (os : List (List AV)) (hv : env t = encR v) (ho : outsA s 0 xs = some os) :
    finish k xs #[.tmp t] env s = some (.tree (encR v), os) := finish_L _ _ _ _ _ _ _ _ hv ho

theorem fnAdd_eq (n d : Nat) (b b' : Bool) (l m : List Nat) (hl : Limbs l) (hm : Limbs m) (hn : l.length + 2 < n) (hn' : m.length + 2 < n) (hll : l.length ≤ 100000) (hml : m.length ≤ 100000) :
    evalFn Try.prog cfg0 n (d+2) 14 [.tree (encL b l), .tree (encL b' m)] = some (.tree (encR (val l + val m)), [[], []]) := by
  rw [evalFn_go _ Try.func14 (by unfold Try.f14; rfl) (by unfold Try.f14; decide) (Nat.le_of_ble_eq_true (by unfold Try.f14; rfl)) (by kernel_rfl)]
  have e0 := i_add Try.prog 3 ((max l.length m.length : Nat) : Int) 1 (by omega) (by omega)
  rw [show ((max l.length m.length : Nat) : Int) + 1 = ((max l.length m.length + 1 : Nat) : Int) by omega] at e0
  simp only [den_seq, den_region, den_ret, den_skip, den_label, den_exit, den_block, den_scope, den_condV, condV_bool, ops1_cons, ops1_guarded, guardV_bool, guardV_tup, guardD_0, guardD_s, ops1_nil, seqK_normal, seqK_ret, seqK_exit, blockK_normal, blockK_exit, blockK_ret, loopK_normal, loopK_exit, loopK_ret, finK_normal, finK_ret, opK_some, opA_move, opA_assign, opA_pick, pickA_bool, opA_len, opA_bin, opA_un, opA_ia, opA_load, opA_store, opA_conv, opA_make, opA_append, opA_copy, opA_max, opA_min, opA_slice, opA_call, opA_callq, opA_extract, extA_tup, Option.getD_some, Option.getD_none, setO_some, setO_none, ev_tmp, ev_int, ev_bool, ev_nil, ev_fn, upd_at, Option.map_some, Option.map_none, Option.bind_some, List.map_cons, List.map_nil, List.cons_append, List.nil_append, reduceIte, Nat.reduceEqDiff, Nat.reduceAdd, decide_true, decide_false, Bool.true_eq_false, Bool.false_eq_true, env0, List.getElem?_cons_zero, List.getElem?_cons_succ, len22, lenN22, k_lss, k_leq, k_gtr, k_geq, k_eql, k_neq, ia22, ld31, conv31_40, conv40_31, st0_2, max_eq, e0, den_loop]
  generalize hN : max l.length m.length + 1 = N
  refine loop_ends (X := Nat × Nat × List Nat) (fun x env s => env 0 = encL b l ∧ env 1 = encL b' m ∧ env 13 = .int .i64 (N : Int) ∧ env 14 = .int .i64 (x.1 : Int) ∧ env 6 = .int .u64 (x.2.1 : Int) ∧ Hold s (env 5) x.2.2 ∧ x.1 ≤ N ∧ x.2.1 ≤ 1 ∧ x.2.2.length = x.1 ∧ Limbs x.2.2 ∧ val x.2.2 + B ^ x.1 * x.2.1 = val (l.take x.1) + val (m.take x.1)) (fun x => N - x.1) (fun _ => (.tree (encR (val l + val m)), [[], []])) ?_ n (0, 0, []) _ _ (by simp only; omega) ⟨rfl, rfl, rfl, rfl, rfl, hold_nil _, by simp, by simp, rfl, limbs_nil, by simp [val]⟩
  intro k ⟨i, c, o⟩ hx ih env s ⟨h0, h1, h13, h14, h6, h5, hi, hc, hol, hoL, hv⟩
  simp only at h0 h1 h13 h14 h6 h5 hi hc hol hoL hv hx
  by_cases hp : i = N
  · subst hp
    have q1 : ¬ ((i : Int) < (i : Int)) := by omega
    obtain ⟨s9, e9⟩ := norm_hold n d s (env 5) o h5 hoL (by omega) (by omega) 35
    simp only [den_seq, den_region, den_ret, den_skip, den_label, den_exit, den_block, den_scope, den_condV, condV_bool, ops1_cons, ops1_guarded, guardV_bool, guardV_tup, guardD_0, guardD_s, ops1_nil, seqK_normal, seqK_ret, seqK_exit, blockK_normal, blockK_exit, blockK_ret, loopK_normal, loopK_exit, loopK_ret, finK_normal, finK_ret, opK_some, opA_move, opA_assign, opA_pick, pickA_bool, opA_len, opA_bin, opA_un, opA_ia, opA_load, opA_store, opA_conv, opA_make, opA_append, opA_copy, opA_max, opA_min, opA_slice, opA_call, opA_callq, opA_extract, extA_tup, Option.getD_some, Option.getD_none, setO_some, setO_none, ev_tmp, ev_int, ev_bool, ev_nil, ev_fn, upd_at, Option.map_some, Option.map_none, Option.bind_some, List.map_cons, List.map_nil, List.cons_append, List.nil_append, reduceIte, Nat.reduceEqDiff, Nat.reduceAdd, decide_true, decide_false, Bool.true_eq_false, Bool.false_eq_true, len22, lenN22, k_lss, k_leq, k_gtr, k_geq, k_eql, k_neq, ia22, ld31, conv31_40, conv40_31, h0, h1, h13, h14, q1, e9]
    rw [add_end l m o i c hl hm (by omega) (by omega) hv]
    exact finish_R _ _ _ _ _ _ _ (by simp only [upd_at, reduceIte]) rfl
  · have q1 : (i : Int) < (N : Int) := by omega
    have c1 := at_call n d b l hl i
    have c2 := at_call n d b' m hm i
    have hx1 := getD_lt l hl i
    have hx2 := getD_lt m hm i
    have e1 := u_add Try.prog 40 (l.getD i 0) (m.getD i 0)
    rw [Nat.mod_eq_of_lt (by omega)] at e1
    have e2 := u_add Try.prog 40 c (l.getD i 0 + m.getD i 0)
    rw [Nat.mod_eq_of_lt (by omega)] at e2
    have e3 := u_shr Try.prog 40 (c + (l.getD i 0 + m.getD i 0)) .u64 32 (by decide) (by decide)
    rw [show (2 : Nat) ^ (32 : Int).toNat = 4294967296 from rfl] at e3
    have e4 := i_add Try.prog 3 (i : Int) 1 (by omega) (by omega)
    have hlim : (c + (l.getD i 0 + m.getD i 0)) % 4294967296 < B := Nat.mod_lt _ (by decide)
    obtain ⟨v', s', ea, hh⟩ := append22 30 s (env 5) o [(c + (l.getD i 0 + m.getD i 0)) % 4294967296] true h5 (by simp only [List.length_cons, List.length_nil]; omega)
    rw [show encL true [(c + (l.getD i 0 + m.getD i 0)) % 4294967296] = .sl [.int .u32 (((c + (l.getD i 0 + m.getD i 0)) % 4294967296 : Nat) : Int)] 1 .tight from rfl] at ea
    simp only [den_seq, den_region, den_ret, den_skip, den_label, den_exit, den_block, den_scope, den_condV, condV_bool, ops1_cons, ops1_guarded, guardV_bool, guardV_tup, guardD_0, guardD_s, ops1_nil, seqK_normal, seqK_ret, seqK_exit, blockK_normal, blockK_exit, blockK_ret, loopK_normal, loopK_exit, loopK_ret, finK_normal, finK_ret, opK_some, opA_move, opA_assign, opA_pick, pickA_bool, opA_len, opA_bin, opA_un, opA_ia, opA_load, opA_store, opA_conv, opA_make, opA_append, opA_copy, opA_max, opA_min, opA_slice, opA_call, opA_callq, opA_extract, extA_tup, Option.getD_some, Option.getD_none, setO_some, setO_none, ev_tmp, ev_int, ev_bool, ev_nil, ev_fn, upd_at, Option.map_some, Option.map_none, Option.bind_some, List.map_cons, List.map_nil, List.cons_append, List.nil_append, reduceIte, Nat.reduceEqDiff, Nat.reduceAdd, decide_true, decide_false, Bool.true_eq_false, Bool.false_eq_true, len22, lenN22, k_lss, k_leq, k_gtr, k_geq, k_eql, k_neq, ia22, ld31, conv31_40, conv40_31, h0, h1, h13, h14, h6, q1, c1, c2, e1, e2, e3, e4, opA_one, one22_int, ea]
    refine ih (i + 1, (c + (l.getD i 0 + m.getD i 0)) / 4294967296, o ++ [(c + (l.getD i 0 + m.getD i 0)) % 4294967296]) _ _ (by simp only; omega) rfl ⟨?_, ?_, ?_, ?_, ?_, ?_, ?_, ?_, ?_, ?_, ?_⟩
    · simp only [upd_at, reduceIte, Nat.reduceEqDiff, h0]
    · simp only [upd_at, reduceIte, Nat.reduceEqDiff, h1]
    · simp only [upd_at, reduceIte, Nat.reduceEqDiff, h13]
    · simp only [upd_at, reduceIte, Nat.reduceEqDiff]; rfl
    · simp only [upd_at, reduceIte, Nat.reduceEqDiff]
    · simp only [upd_at, reduceIte, Nat.reduceEqDiff]; exact hh
    · simp only; omega
    · simp only; omega
    · simp only [List.length_append, List.length_cons, List.length_nil]; omega
    · exact hoL.app (limbs_one hlim)
    · exact add_step l m o i c hol hv
end Go.Ab
