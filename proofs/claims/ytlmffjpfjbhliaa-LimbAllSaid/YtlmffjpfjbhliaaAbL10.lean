/- The calls of the program's number functions, upon any value that shows a number. Conditions: at most 1000 limbs. -/
import Derived.Test.YtlmffjpfjbhliaaAbL9
import Derived.Test.YtlmffjpfjbhliaaAbM7
namespace Go.Ab
open Go.Proofs
set_option maxRecDepth 100000
set_option linter.unusedSimpArgs false

/-- A value that shows a list of limbs, whatever room is behind it. -/
def Sh (w : AV) (l : List Nat) : Prop := ∃ g, w = .sl (encC l) l.length g
theorem sh_L (b : Bool) (l : List Nat) : Sh (encL b l) l := ⟨_, rfl⟩
theorem Sh.arg {w : AV} {l : List Nat} (h : Sh w l) (f : FuncId) (s : St) (j : Nat) : ∃ b, argA cfg0 f s j w = some (.tree (encL b l)) := by
  obtain ⟨g, rfl⟩ := h
  cases g with
  | tight => exact ⟨true, rfl⟩
  | loose => exact ⟨false, rfl⟩
  | tok p t => exact ⟨false, rfl⟩
theorem Sh.gives {w : AV} {l : List Nat} (h : Sh w l) (v : AV) : givesOf w (.tree v) = none := by
  obtain ⟨g, rfl⟩ := h
  cases g <;> rfl
theorem Sh.lends {w : AV} {l : List Nat} (h : Sh w l) (v : AV) : lendsOf w (.tree v) = none := by
  obtain ⟨g, rfl⟩ := h
  cases g <;> rfl
theorem callA_S1 (call : FuncId → List Arg → Option Out) (d : Nat) (s : St) (f : FuncId) {w : AV} {l : List Nat} (h : Sh w l) (v : AV) (hc : ∀ b, call f [.tree (encL b l)] = some (.tree v, [[]])) : callA cfg0 call d s f [w] = some (v, s) := by
  obtain ⟨b, e⟩ := h.arg f s 0
  simp [callA, argsA, e, givesL, lendsL, h.gives, h.lends, hc, backA, resA]
theorem callA_S2 (call : FuncId → List Arg → Option Out) (d : Nat) (s : St) (f : FuncId) {w w' : AV} {l l' : List Nat} (h : Sh w l) (h' : Sh w' l') (v : AV) (hc : ∀ b b', call f [.tree (encL b l), .tree (encL b' l')] = some (.tree v, [[], []])) : callA cfg0 call d s f [w, w'] = some (v, s) := by
  obtain ⟨b, e⟩ := h.arg f s 0
  obtain ⟨b', e'⟩ := h'.arg f s 1
  simp [callA, argsA, e, e', givesL, lendsL, h.gives, h.lends, h'.gives, h'.lends, hc, backA, resA]
theorem callA_Si (call : FuncId → List Arg → Option Out) (d : Nat) (s : St) (f : FuncId) {w : AV} {l : List Nat} (h : Sh w l) (k : IntKind) (z : Int) (v : AV) (hc : ∀ b, call f [.tree (encL b l), .tree (.int k z)] = some (.tree v, [[], []])) : callA cfg0 call d s f [w, .int k z] = some (v, s) := by
  obtain ⟨b, e⟩ := h.arg f s 0
  simp [callA, argsA, e, argA_int, givesL, lendsL, h.gives, h.lends, gives_int, lends_int, hc, backA, resA]
/-- A value that shows the number v: of at most 1000 limbs. -/
def Num (w : AV) (v : Nat) : Prop := ∃ l, Sh w l ∧ Limbs l ∧ l.length ≤ 1000 ∧ val l = v
theorem num_S {w : AV} {l : List Nat} (hs : Sh w l) (h : Limbs l) (hl : l.length ≤ 1000) : Num w (val l) := ⟨l, hs, h, hl, rfl⟩
theorem num_L (b : Bool) (l : List Nat) (h : Limbs l) (hl : l.length ≤ 1000) : Num (encL b l) (val l) := ⟨l, sh_L b l, h, hl, rfl⟩
theorem num_R (v k : Nat) (hk : k ≤ 1000) (h : v < B ^ k) : Num (encR v) v := ⟨_, sh_L _ _, limbs_digs v, Nat.le_trans (digs_len v k h) hk, val_digs v⟩
theorem Num.lt {w : AV} {v : Nat} (h : Num w v) : ∃ k, k ≤ 1000 ∧ v < B ^ k := by
  obtain ⟨l, hs, hl, hn, rfl⟩ := h
  exact ⟨l.length, hn, val_lt l hl⟩
section
variable (n d : Nat) (hn : 100000 ≤ n) (D : Nat) (s : St)
include hn
theorem cNorm {w : AV} {v : Nat} (h : Num w v) : callA cfg0 (evalFn Try.prog cfg0 n (d+1)) D s 16 [w] = some (encR v, s) := by
  obtain ⟨l, hs, hl, hk, rfl⟩ := h
  exact callA_S1 _ D s 16 hs _ fun b => norm_eq n d b l hl (by omega) (by omega)
theorem cCmp {w w' : AV} {v v' : Nat} (h : Num w v) (h' : Num w' v') : callA cfg0 (evalFn Try.prog cfg0 n (d+3)) D s 11 [w, w'] = some (.int .i64 (cmpZ v v'), s) := by
  obtain ⟨l, hs, hl, hk, rfl⟩ := h
  obtain ⟨l', hs', hl', hk', rfl⟩ := h'
  exact callA_S2 _ D s 11 hs hs' _ fun b b' => cmp_eq n d b b' l l' hl hl' (by omega) (by omega) (by omega) (by omega)
theorem cAdd {w w' : AV} {v v' : Nat} (h : Num w v) (h' : Num w' v') : callA cfg0 (evalFn Try.prog cfg0 n (d+2)) D s 14 [w, w'] = some (encR (v + v'), s) := by
  obtain ⟨l, hs, hl, hk, rfl⟩ := h
  obtain ⟨l', hs', hl', hk', rfl⟩ := h'
  exact callA_S2 _ _ _ _ hs hs' _ fun b b' => (fnAdd_eq n d b b' l l' hl hl' (by omega) (by omega) (by omega) (by omega))
theorem cSub {w w' : AV} {v v' : Nat} (h : Num w v) (h' : Num w' v') : callA cfg0 (evalFn Try.prog cfg0 n (d+4)) D s 18 [w, w'] = some (encR (v - v'), s) := by
  obtain ⟨l, hs, hl, hk, rfl⟩ := h
  obtain ⟨l', hs', hl', hk', rfl⟩ := h'
  exact callA_S2 _ _ _ _ hs hs' _ fun b b' => (fnSub_eq n d b b' l l' hl hl' (by omega) (by omega) (by omega) (by omega))
theorem cMul {w w' : AV} {v v' : Nat} (h : Num w v) (h' : Num w' v') : callA cfg0 (evalFn Try.prog cfg0 n (d+2)) D s 19 [w, w'] = some (encR (v * v'), s) := by
  obtain ⟨l, hs, hl, hk, rfl⟩ := h
  obtain ⟨l', hs', hl', hk', rfl⟩ := h'
  exact callA_S2 _ _ _ _ hs hs' _ fun b b' => (fnMul_eq n d b b' l l' hl hl' (by omega) (by omega) (by omega))
theorem cShl {w : AV} {v : Nat} (h : Num w v) (z : Int) : callA cfg0 (evalFn Try.prog cfg0 n (d+2)) D s 20 [w, .int .i64 z] = some (encR (v * 2 ^ shn z), s) := by
  obtain ⟨l, hs, hl, hk, rfl⟩ := h
  exact callA_Si _ _ _ _ hs _ _ _ fun b => (fnShl_eq n d b l z hl (by omega) (by omega))
theorem cShr {w : AV} {v : Nat} (h : Num w v) (z : Int) (hz : z ≤ 9223372036854775807) : callA cfg0 (evalFn Try.prog cfg0 n (d+2)) D s 21 [w, .int .i64 z] = some (encR (v / 2 ^ z.toNat), s) := by
  obtain ⟨l, hs, hl, hk, rfl⟩ := h
  exact callA_Si _ _ _ _ hs _ _ _ fun b => (fnShr_eq n d b l z hl (by omega) (by omega) hz)
theorem cLen {w : AV} {v : Nat} (h : Num w v) : callA cfg0 (evalFn Try.prog cfg0 n (d+2)) D s 17 [w] = some (.int .i64 ((blen v : Nat) : Int), s) := by
  obtain ⟨l, hs, hl, hk, rfl⟩ := h
  exact callA_S1 _ D s 17 hs _ fun b => len_eq n d b l hl (by omega) (by omega)
end
theorem lenR (s : St) (v : Nat) : lenA Try.prog 22 s (encR v) = some (.int .i64 ((digs v).length : Int)) := len22 s _ _
theorem digs_len0 (v : Nat) : (digs v).length = 0 ↔ v = 0 := by
  constructor
  · intro h
    have := val_digs v
    rw [List.length_eq_zero_iff.mp h] at this
    exact this.symm
  · intro h; subst h; rw [digs_0]; rfl
theorem shn_1 : shn 1 = 1 := by decide
theorem s_and1 (P : Program) (t : TypeId) (a : Nat) (h : a < 4294967296) : binA P .and t (.int .u32 (a : Int)) (.int .u32 1) = some (.int .u32 ((a % 2 : Nat) : Int)) := by
  have h1 : (BitVec.ofInt 32 (a : Int) &&& BitVec.ofInt 32 1).toNat = a % 2 := by
    rw [BitVec.toNat_and, BitVec.ofInt_natCast, BitVec.toNat_ofNat, Nat.mod_eq_of_lt h, show (BitVec.ofInt 32 1).toNat = 1 from rfl, Nat.and_one_is_mod]
  show some (AV.int .u32 (IntKind.u32.wrap ((BitVec.ofInt 32 (a : Int) &&& BitVec.ofInt 32 1).toNat : Int))) = _
  rw [h1]
  simp only [IntKind.wrap, IntKind.bits, IntKind.signed]
  congr 2
  simp; omega
theorem s_or (P : Program) (t : TypeId) (a b : Nat) (h : a < 4294967296) (h' : b < 4294967296) : binA P .or t (.int .u32 (a : Int)) (.int .u32 (b : Int)) = some (.int .u32 (((a ||| b) : Nat) : Int)) := by
  have h1 : (BitVec.ofInt 32 (a : Int) ||| BitVec.ofInt 32 (b : Int)).toNat = a ||| b := by
    rw [BitVec.toNat_or, BitVec.ofInt_natCast, BitVec.ofInt_natCast, BitVec.toNat_ofNat, BitVec.toNat_ofNat, Nat.mod_eq_of_lt h, Nat.mod_eq_of_lt h']
  have h2 := Nat.or_lt_two_pow (n := 32) h h'
  show some (AV.int .u32 (IntKind.u32.wrap ((BitVec.ofInt 32 (a : Int) ||| BitVec.ofInt 32 (b : Int)).toNat : Int))) = _
  rw [h1]
  simp only [IntKind.wrap, IntKind.bits, IntKind.signed]
  congr 2
  generalize a ||| b = c at *
  simp; omega
theorem s_shl1 (P : Program) (t : TypeId) (k : IntKind) (r : Nat) (h : r < 32) : binA P .shl t (.int .u32 1) (.int k (r : Int)) = some (.int .u32 ((2 ^ r : Nat) : Int)) := by
  have h1 : 2 ^ r < 2 ^ 32 := Nat.pow_lt_pow_right (by decide) h
  simp only [binA, shA]
  rw [if_neg (by omega)]
  have e : (1 : Int) * 2 ^ (min ((r : Int).toNat) IntKind.u32.bits) = ((2 ^ r : Nat) : Int) := by
    rw [Int.toNat_natCast, show min r IntKind.u32.bits = r from Nat.min_eq_left (by simp only [IntKind.bits]; omega), Int.one_mul]
    simp
  rw [e]
  simp only [IntKind.wrap, IntKind.bits, IntKind.signed]
  congr 2
  simp only [Bool.false_and, Bool.false_eq_true, if_false]
  rw [show (2 : Int) ^ 32 = ((2 ^ 32 : Nat) : Int) from rfl, ← Int.natCast_emod, Nat.mod_eq_of_lt h1]
theorem finish_2 (k : Bool) (xs : List Arg) (t t' : Nat) (env : Env) (s : St) (v v' : Nat) (os : List (List AV)) (hv : env t = encR v) (hv' : env t' = encR v') (ho : outsA s 0 xs = some os) :
    finish k xs #[.tmp t, .tmp t'] env s = some (.tree (.tup [encR v, encR v']), os) := by
  have e : ∀ u, settle s (encR u) = some (encR u, s) := fun u => settle_L s _ _
  simp only [finish, List.mapM_cons, List.mapM_nil, hv, hv', Option.pure_def, Option.bind_eq_bind, Option.bind_some, settleL, e, Option.map_some, ho]

theorem fnDiv_eq (n d : Nat) (b b' : Bool) (l m : List Nat) (hl : Limbs l) (hm : Limbs m) (hn : 100000 ≤ n) (hll : l.length ≤ 900) (hml : m.length ≤ 900) :
    evalFn Try.prog cfg0 n (d+5) 22 [.tree (encL b l), .tree (encL b' m)] = some (.tree (.tup [encR (if val m = 0 then 0 else val l / val m), encR (if val m = 0 then 0 else val l % val m)]), [[], []]) := by
  rw [evalFn_go _ Try.func22 (by unfold Try.f22; rfl) (by unfold Try.f22; decide) (Nat.le_of_ble_eq_true (by unfold Try.f22; rfl)) (by kernel_rfl)]
  have c1 := fun D s => norm_call n (d + 3) b' m hm (by omega) (by omega) D s
  by_cases hz : val m = 0
  · have p1 : (((digs (val m)).length : Int) == 0) = true := by rw [hz, digs_0]; rfl
    simp only [den_seq, den_region, den_ret, den_skip, den_label, den_exit, den_block, den_scope, den_condV, condV_bool, ops1_cons, ops1_guarded, guardV_bool, guardV_tup, guardD_0, guardD_s, ops1_nil, seqK_normal, seqK_ret, seqK_exit, blockK_normal, blockK_exit, blockK_ret, loopK_normal, loopK_exit, loopK_ret, finK_normal, finK_ret, opK_some, opA_move, opA_assign, opA_pick, pickA_bool, opA_len, opA_bin, opA_un, opA_ia, opA_load, opA_store, opA_conv, opA_make, opA_append, opA_copy, opA_max, opA_min, opA_slice, opA_call, opA_callq, opA_extract, extA_tup, Option.getD_some, Option.getD_none, setO_some, setO_none, ev_tmp, ev_int, ev_bool, ev_nil, ev_fn, upd_at, Option.map_some, Option.map_none, Option.bind_some, List.map_cons, List.map_nil, List.cons_append, List.nil_append, reduceIte, Nat.reduceEqDiff, Nat.reduceAdd, decide_true, decide_false, Bool.true_eq_false, Bool.false_eq_true, env0, List.getElem?_cons_zero, List.getElem?_cons_succ, len22, lenN22, k_lss, k_leq, k_gtr, k_geq, k_eql, k_neq, ia22, ld31, conv31_40, conv40_31, c1, lenR, p1]
    simp only [hz, reduceIte]
    exact finish_2 _ _ _ _ _ _ 0 0 _ (by simp only [upd_at, reduceIte, Nat.reduceEqDiff, encR_0]) (by simp only [upd_at, reduceIte, Nat.reduceEqDiff, encR_0]) rfl
  have p1 : (((digs (val m)).length : Int) == 0) = false := by
    rw [beq_eq_false_iff_ne]
    intro h
    exact hz ((digs_len0 _).mp (by omega))
  have e2 := make22 15 dead (l.length : Int) (by omega) (by omega)
  rw [Int.toNat_natCast] at e2
  have e3 : (dead 15).t + 1 = 1 := rfl
  have c2 := fun D s => cLen n (d + 2) hn D s (num_L b l hl (by omega))
  have hbl : blen (val l) ≤ 32 * l.length := blen_le _ _ (by rw [← B_pow]; exact val_lt l hl)
  have e4 := i_sub Try.prog 3 (blen (val l) : Int) 1 (by omega) (by omega)
  have hmB : val m < B ^ m.length := val_lt m hm
  simp only [hz, if_false]
  simp only [den_seq, den_region, den_ret, den_skip, den_label, den_exit, den_block, den_scope, den_condV, condV_bool, ops1_cons, ops1_guarded, guardV_bool, guardV_tup, guardD_0, guardD_s, ops1_nil, seqK_normal, seqK_ret, seqK_exit, blockK_normal, blockK_exit, blockK_ret, loopK_normal, loopK_exit, loopK_ret, finK_normal, finK_ret, opK_some, opA_move, opA_assign, opA_pick, pickA_bool, opA_len, opA_bin, opA_un, opA_ia, opA_load, opA_store, opA_conv, opA_make, opA_append, opA_copy, opA_max, opA_min, opA_slice, opA_call, opA_callq, opA_extract, extA_tup, Option.getD_some, Option.getD_none, setO_some, setO_none, ev_tmp, ev_int, ev_bool, ev_nil, ev_fn, upd_at, Option.map_some, Option.map_none, Option.bind_some, List.map_cons, List.map_nil, List.cons_append, List.nil_append, reduceIte, Nat.reduceEqDiff, Nat.reduceAdd, decide_true, decide_false, Bool.true_eq_false, Bool.false_eq_true, env0, List.getElem?_cons_zero, List.getElem?_cons_succ, len22, lenN22, k_lss, k_leq, k_gtr, k_geq, k_eql, k_neq, ia22, ld31, conv31_40, conv40_31, st0_2, c1, c2, lenR, p1, e2, e3, e4, den_loop]
  refine loop_ends (X := Nat × Nat × List Nat × Nat) (fun x env s => env 0 = encL b l ∧ env 1 = encR (val m) ∧ env 7 = .int .i64 ((x.1 : Int) - 1) ∧ env 5 = encR x.2.1 ∧ env 6 = .own 15 1 0 l.length 1 ∧ s 15 = ⟨1, .buf (encC x.2.2.1)⟩ ∧ x.1 ≤ 32 * l.length ∧ x.2.1 < val m ∧ x.2.2.1.length = l.length ∧ Limbs x.2.2.1 ∧ val x.2.2.1 = x.2.2.2 * 2 ^ x.1 ∧ val l / 2 ^ x.1 = x.2.2.2 * val m + x.2.1) (fun x => x.1) (fun _ => (.tree (.tup [encR (val l / val m), encR (val l % val m)]), [[], []])) ?_ n (blen (val l), 0, List.replicate l.length 0, 0) _ _ (by simp only; omega) ⟨rfl, rfl, rfl, by rw [encR_0]; rfl, rfl, rfl, by simp only; omega, by simp only; omega, by simp, ?_, by simp [val_rep], ?_⟩
  rotate_left
  · intro x hx; rw [List.eq_of_mem_replicate hx]; decide
  · simp only [Nat.zero_mul, Nat.zero_add]; exact Nat.div_eq_of_lt (lt_blen _)
  intro k' ⟨x, r, o, Q⟩ hx ih env s ⟨h0, h1, h7, h5, h6, hs, hi, hr, hol, hoL, hQ, hA⟩
  simp only at h0 h1 h7 h5 h6 hs hi hr hol hoL hQ hA hx
  by_cases hp : x = 0
  · subst hp
    have q1 : ¬ (((0 : Nat) : Int) - 1 ≥ 0) := by omega
    obtain ⟨s9, e9⟩ := norm_hold n (d + 3) s (.own 15 1 0 l.length 1) o (.inr (.inr ⟨15, 1, by rw [hol], hs⟩)) hoL (by omega) (by omega) 56
    simp only [den_seq, den_region, den_ret, den_skip, den_label, den_exit, den_block, den_scope, den_condV, condV_bool, ops1_cons, ops1_guarded, guardV_bool, guardV_tup, guardD_0, guardD_s, ops1_nil, seqK_normal, seqK_ret, seqK_exit, blockK_normal, blockK_exit, blockK_ret, loopK_normal, loopK_exit, loopK_ret, finK_normal, finK_ret, opK_some, opA_move, opA_assign, opA_pick, pickA_bool, opA_len, opA_bin, opA_un, opA_ia, opA_load, opA_store, opA_conv, opA_make, opA_append, opA_copy, opA_max, opA_min, opA_slice, opA_call, opA_callq, opA_extract, extA_tup, Option.getD_some, Option.getD_none, setO_some, setO_none, ev_tmp, ev_int, ev_bool, ev_nil, ev_fn, upd_at, Option.map_some, Option.map_none, Option.bind_some, List.map_cons, List.map_nil, List.cons_append, List.nil_append, reduceIte, Nat.reduceEqDiff, Nat.reduceAdd, decide_true, decide_false, Bool.true_eq_false, Bool.false_eq_true, len22, lenN22, k_lss, k_leq, k_gtr, k_geq, k_eql, k_neq, ia22, ld31, conv31_40, conv40_31, h0, h1, h7, h5, h6, q1, e9]
    have hq : val l / val m = val o ∧ val l % val m = r := by
      rw [Nat.pow_zero, Nat.div_one] at hA
      rw [Nat.pow_zero, Nat.mul_one] at hQ
      rw [hA, hQ, Nat.mul_comm]
      constructor
      · rw [Nat.mul_add_div (by omega), Nat.div_eq_of_lt hr, Nat.add_zero]
      · rw [Nat.mul_add_mod, Nat.mod_eq_of_lt hr]
    rw [hq.1, hq.2]
    exact finish_2 _ _ _ _ _ _ _ _ _ (by simp only [upd_at, reduceIte, Nat.reduceEqDiff]) (by simp only [upd_at, reduceIte]) rfl
  · obtain ⟨y, rfl⟩ : ∃ y, x = y + 1 := ⟨x - 1, by omega⟩
    have p2 : ((y + 1 : Nat) : Int) - 1 = (y : Int) := by omega
    rw [p2] at h7
    have p6 : (y : Int) ≥ 0 := by omega
    have p3 : ((y / 32 : Nat) : Int) < l.length := by omega
    have p4 : y / 32 < l.length := by omega
    have p7 : (0 : Int) ≤ ((y / 32 : Nat) : Int) := by omega
    have g0 := i_sub Try.prog 3 (y : Int) 1 (by omega) (by omega)
    have g1 := i_quo Try.prog 3 y 32 (by decide) (by omega)
    have g2 := i_rem Try.prog 3 y 32 (by decide)
    rw [show ((32 : Nat) : Int) = 32 from rfl] at g1 g2
    have h900 : B ^ m.length * 4 ≤ B ^ (m.length + 1) := by
      rw [Nat.pow_succ]
      exact Nat.mul_le_mul_left _ (by decide)
    have hk1 : m.length + 1 ≤ 1000 := by omega
    have hrB : r < B ^ (m.length + 1) := by generalize B ^ (m.length + 1) = b1 at *; generalize B ^ m.length = b2 at *; omega
    have hr2 : r * 2 ^ 1 < B ^ (m.length + 1) := by generalize B ^ (m.length + 1) = b1 at *; generalize B ^ m.length = b2 at *; omega
    have hr3 : r * 2 ^ 1 + 1 < B ^ (m.length + 1) := by generalize B ^ (m.length + 1) = b1 at *; generalize B ^ m.length = b2 at *; omega
    have hmB' : val m < B ^ (m.length + 1) := by generalize B ^ (m.length + 1) = b1 at *; generalize B ^ m.length = b2 at *; omega
    have c3 := fun D s => cShl n (d + 2) hn D s (num_R r _ hk1 hrB) 1
    rw [shn_1] at c3
    have hlw := getD_lt l hl (y / 32)
    have g3 := s_shr Try.prog 31 (l.getD (y / 32) 0) .i64 ((y % 32 : Nat) : Int) (by omega) (by omega)
    rw [Int.toNat_natCast] at g3
    have g4 := s_and1 Try.prog 31 (l.getD (y / 32) 0 / 2 ^ (y % 32)) (Nat.lt_of_le_of_lt (Nat.div_le_self _ _) hlw)
    rw [bit_limb l hl] at g4
    have hbit := div_pow1 (val l) y
    have hb01 : val l / 2 ^ y % 2 < 2 := Nat.mod_lt _ (by decide)
    generalize val l / 2 ^ y % 2 = bit at *
    rw [hA] at hbit
    -- the remainder with the next bit
    have one1 : Num (.sl [.int .u32 1] 1 .tight) 1 := ⟨[1], ⟨_, rfl⟩, limbs_one (by decide), by decide, rfl⟩
    have c4 := fun D s => cAdd n (d + 2) hn D s (num_R (r * 2 ^ 1) _ hk1 hr2) one1
    have hnew : val l / 2 ^ y = 2 * Q * val m + (r * 2 ^ 1 + bit) := by
      rw [hbit, Nat.mul_add, Nat.mul_assoc]; omega
    have hr4 : r * 2 ^ 1 + bit < B ^ (m.length + 1) := by generalize B ^ (m.length + 1) = b1 at *; omega
    have c5 := fun D s => cCmp n (d + 1) hn D s (num_R (r * 2 ^ 1 + bit) _ hk1 hr4) (num_R (val m) _ hk1 hmB')
    have c6 := fun D s => cSub n d hn D s (num_R (r * 2 ^ 1 + bit) _ hk1 hr4) (num_R (val m) _ hk1 hmB')
    have t1 := ia_own s 15 1 _ l.length .i64 ((y / 32 : Nat) : Int) hs p7 p3
    rw [Int.toNat_natCast] at t1
    have t2 := ld_own s 15 1 o (y / 32) hs (by omega)
    have t3 := s_shl1 Try.prog 31 .i64 (y % 32) (Nat.mod_lt _ (by decide))
    have hob := or_bit o hoL y Q hQ
    have t4 := s_or Try.prog 31 (o.getD (y / 32) 0) (2 ^ (y % 32)) (getD_lt o hoL _) (show 2 ^ (y % 32) < 2 ^ 32 from Nat.pow_lt_pow_right (by decide) (Nat.mod_lt _ (by decide)))
    have t5 := st31 s 15 1 _ (y / 32) (o.getD (y / 32) 0 ||| 2 ^ (y % 32)) hs (by omega)
    have hset := div_set o hoL y Q (by omega) hQ
    have hQ2 : val o = 2 * Q * 2 ^ y := by rw [hQ, pow1, Nat.mul_comm 2 Q, Nat.mul_assoc]
    by_cases hbz : bit = 0
    · have p5 : ((bit : Int) != 0) = false := by rw [hbz]; rfl
      have hb0 : r * 2 ^ 1 + bit = r * 2 ^ 1 := by omega
      rw [hb0] at c5 c6 hnew
      by_cases hlt : r * 2 ^ 1 < val m
      · have z1 : cmpZ (r * 2 ^ 1) (val m) < 0 := (cmpZ_lt _ _).mpr hlt
        simp only [den_seq, den_region, den_ret, den_skip, den_label, den_exit, den_block, den_scope, den_condV, condV_bool, ops1_cons, ops1_guarded, guardV_bool, guardV_tup, guardD_0, guardD_s, ops1_nil, seqK_normal, seqK_ret, seqK_exit, blockK_normal, blockK_exit, blockK_ret, loopK_normal, loopK_exit, loopK_ret, finK_normal, finK_ret, opK_some, opA_move, opA_assign, opA_pick, pickA_bool, opA_len, opA_bin, opA_un, opA_ia, opA_load, opA_store, opA_conv, opA_make, opA_append, opA_copy, opA_max, opA_min, opA_slice, opA_call, opA_callq, opA_extract, extA_tup, Option.getD_some, Option.getD_none, setO_some, setO_none, ev_tmp, ev_int, ev_bool, ev_nil, ev_fn, upd_at, Option.map_some, Option.map_none, Option.bind_some, List.map_cons, List.map_nil, List.cons_append, List.nil_append, reduceIte, Nat.reduceEqDiff, Nat.reduceAdd, decide_true, decide_false, Bool.true_eq_false, Bool.false_eq_true, len22, lenN22, k_lss, k_leq, k_gtr, k_geq, k_eql, k_neq, ia22, ld31, conv31_40, conv40_31, h0, h1, h7, h5, h6, p6, c3, g1, g2, p7, p3, p4, Int.toNat_natCast, g3, bit_limb l hl, g4, p5, c5, z1, g0]
        refine ih (y, r * 2 ^ 1, o, 2 * Q) _ _ (by simp only; omega) rfl ⟨?_, ?_, ?_, ?_, ?_, hs, ?_, hlt, hol, hoL, hQ2, hnew⟩
        · simp only [upd_at, reduceIte, Nat.reduceEqDiff, h0]
        · simp only [upd_at, reduceIte, Nat.reduceEqDiff, h1]
        · simp only [upd_at, reduceIte, Nat.reduceEqDiff]
        · simp only [upd_at, reduceIte, Nat.reduceEqDiff]
        · simp only [upd_at, reduceIte, Nat.reduceEqDiff, h6]
        · simp only; omega
      · have z1 : ¬ cmpZ (r * 2 ^ 1) (val m) < 0 := fun h => hlt ((cmpZ_lt _ _).mp h)
        simp only [den_seq, den_region, den_ret, den_skip, den_label, den_exit, den_block, den_scope, den_condV, condV_bool, ops1_cons, ops1_guarded, guardV_bool, guardV_tup, guardD_0, guardD_s, ops1_nil, seqK_normal, seqK_ret, seqK_exit, blockK_normal, blockK_exit, blockK_ret, loopK_normal, loopK_exit, loopK_ret, finK_normal, finK_ret, opK_some, opA_move, opA_assign, opA_pick, pickA_bool, opA_len, opA_bin, opA_un, opA_ia, opA_load, opA_store, opA_conv, opA_make, opA_append, opA_copy, opA_max, opA_min, opA_slice, opA_call, opA_callq, opA_extract, extA_tup, Option.getD_some, Option.getD_none, setO_some, setO_none, ev_tmp, ev_int, ev_bool, ev_nil, ev_fn, upd_at, Option.map_some, Option.map_none, Option.bind_some, List.map_cons, List.map_nil, List.cons_append, List.nil_append, reduceIte, Nat.reduceEqDiff, Nat.reduceAdd, decide_true, decide_false, Bool.true_eq_false, Bool.false_eq_true, len22, lenN22, k_lss, k_leq, k_gtr, k_geq, k_eql, k_neq, ia22, ld31, conv31_40, conv40_31, h0, h1, h7, h5, h6, p6, c3, g1, g2, p7, p3, p4, Int.toNat_natCast, g3, bit_limb l hl, g4, p5, c5, z1, g0, c6, t1, t2, t3, t4, t5]
        refine ih (y, r * 2 ^ 1 - val m, o.set (y / 32) (o.getD (y / 32) 0 ||| 2 ^ (y % 32)), 2 * Q + 1) _ _ (by simp only; omega) rfl ⟨?_, ?_, ?_, ?_, ?_, ?_, ?_, ?_, ?_, ?_, hset, ?_⟩
        · simp only [upd_at, reduceIte, Nat.reduceEqDiff, h0]
        · simp only [upd_at, reduceIte, Nat.reduceEqDiff, h1]
        · simp only [upd_at, reduceIte, Nat.reduceEqDiff]
        · simp only [upd_at, reduceIte, Nat.reduceEqDiff]
        · simp only [upd_at, reduceIte, Nat.reduceEqDiff, h6]
        · rw [upd_self]
        · simp only; omega
        · simp only; omega
        · simp only [List.length_set]; exact hol
        · exact limbs_set _ hoL _ _ hob.2
        · simp only; rw [hnew, Nat.add_mul, Nat.one_mul]; omega
    · have hb1 : bit = 1 := by omega
      have p5 : ((bit : Int) != 0) = true := by rw [hb1]; rfl
      rw [hb1] at c5 c6 hnew
      by_cases hlt : r * 2 ^ 1 + 1 < val m
      · have z1 : cmpZ (r * 2 ^ 1 + 1) (val m) < 0 := (cmpZ_lt _ _).mpr hlt
        simp only [den_seq, den_region, den_ret, den_skip, den_label, den_exit, den_block, den_scope, den_condV, condV_bool, ops1_cons, ops1_guarded, guardV_bool, guardV_tup, guardD_0, guardD_s, ops1_nil, seqK_normal, seqK_ret, seqK_exit, blockK_normal, blockK_exit, blockK_ret, loopK_normal, loopK_exit, loopK_ret, finK_normal, finK_ret, opK_some, opA_move, opA_assign, opA_pick, pickA_bool, opA_len, opA_bin, opA_un, opA_ia, opA_load, opA_store, opA_conv, opA_make, opA_append, opA_copy, opA_max, opA_min, opA_slice, opA_call, opA_callq, opA_extract, extA_tup, Option.getD_some, Option.getD_none, setO_some, setO_none, ev_tmp, ev_int, ev_bool, ev_nil, ev_fn, upd_at, Option.map_some, Option.map_none, Option.bind_some, List.map_cons, List.map_nil, List.cons_append, List.nil_append, reduceIte, Nat.reduceEqDiff, Nat.reduceAdd, decide_true, decide_false, Bool.true_eq_false, Bool.false_eq_true, len22, lenN22, k_lss, k_leq, k_gtr, k_geq, k_eql, k_neq, ia22, ld31, conv31_40, conv40_31, h0, h1, h7, h5, h6, p6, c3, g1, g2, p7, p3, p4, Int.toNat_natCast, g3, bit_limb l hl, g4, p5, opA_one, one22_int, c4, c5, z1, g0]
        refine ih (y, r * 2 ^ 1 + 1, o, 2 * Q) _ _ (by simp only; omega) rfl ⟨?_, ?_, ?_, ?_, ?_, hs, ?_, hlt, hol, hoL, hQ2, hnew⟩
        · simp only [upd_at, reduceIte, Nat.reduceEqDiff, h0]
        · simp only [upd_at, reduceIte, Nat.reduceEqDiff, h1]
        · simp only [upd_at, reduceIte, Nat.reduceEqDiff]
        · simp only [upd_at, reduceIte, Nat.reduceEqDiff]
        · simp only [upd_at, reduceIte, Nat.reduceEqDiff, h6]
        · simp only; omega
      · have z1 : ¬ cmpZ (r * 2 ^ 1 + 1) (val m) < 0 := fun h => hlt ((cmpZ_lt _ _).mp h)
        simp only [den_seq, den_region, den_ret, den_skip, den_label, den_exit, den_block, den_scope, den_condV, condV_bool, ops1_cons, ops1_guarded, guardV_bool, guardV_tup, guardD_0, guardD_s, ops1_nil, seqK_normal, seqK_ret, seqK_exit, blockK_normal, blockK_exit, blockK_ret, loopK_normal, loopK_exit, loopK_ret, finK_normal, finK_ret, opK_some, opA_move, opA_assign, opA_pick, pickA_bool, opA_len, opA_bin, opA_un, opA_ia, opA_load, opA_store, opA_conv, opA_make, opA_append, opA_copy, opA_max, opA_min, opA_slice, opA_call, opA_callq, opA_extract, extA_tup, Option.getD_some, Option.getD_none, setO_some, setO_none, ev_tmp, ev_int, ev_bool, ev_nil, ev_fn, upd_at, Option.map_some, Option.map_none, Option.bind_some, List.map_cons, List.map_nil, List.cons_append, List.nil_append, reduceIte, Nat.reduceEqDiff, Nat.reduceAdd, decide_true, decide_false, Bool.true_eq_false, Bool.false_eq_true, len22, lenN22, k_lss, k_leq, k_gtr, k_geq, k_eql, k_neq, ia22, ld31, conv31_40, conv40_31, h0, h1, h7, h5, h6, p6, c3, g1, g2, p7, p3, p4, Int.toNat_natCast, g3, bit_limb l hl, g4, p5, opA_one, one22_int, c4, c5, z1, g0, c6, t1, t2, t3, t4, t5]
        refine ih (y, r * 2 ^ 1 + 1 - val m, o.set (y / 32) (o.getD (y / 32) 0 ||| 2 ^ (y % 32)), 2 * Q + 1) _ _ (by simp only; omega) rfl ⟨?_, ?_, ?_, ?_, ?_, ?_, ?_, ?_, ?_, ?_, hset, ?_⟩
        · simp only [upd_at, reduceIte, Nat.reduceEqDiff, h0]
        · simp only [upd_at, reduceIte, Nat.reduceEqDiff, h1]
        · simp only [upd_at, reduceIte, Nat.reduceEqDiff]
        · simp only [upd_at, reduceIte, Nat.reduceEqDiff]
        · simp only [upd_at, reduceIte, Nat.reduceEqDiff, h6]
        · rw [upd_self]
        · simp only; omega
        · simp only; omega
        · simp only [List.length_set]; exact hol
        · exact limbs_set _ hoL _ _ hob.2
        · simp only; rw [hnew, Nat.add_mul, Nat.one_mul]; omega
end Go.Ab
