/- Numbers of ints, negatives, bits, sums. Conditions: limbs in range. -/
import Derived.Test.YtdibanolokkniaaDoorAbnA2
namespace Go.Ab
open Go.Proofs
set_option maxRecDepth 100000
set_option linter.unusedSimpArgs false

def madeV (z : Int) : AV := .tup [encZ (mkZ z).1, .bool (mkZ z).2]
theorem callA_bS (call : FuncId → List Arg → Option Out) (d : Nat) (s : St) (f : FuncId) {w : AV} {l : List Nat} (h : Sh w l) (b : Bool) (v : AV) (hc : ∀ g, call f [.tree (.bool b), .tree (encL g l)] = some (.tree v, [[], []])) : callA cfg0 call d s f [.bool b, w] = some (v, s) := by
  obtain ⟨g, e⟩ := h.arg f s 1
  have e0 : argA cfg0 f s 0 (.bool b) = some (.tree (.bool b)) := rfl
  have g0 : ∀ a, givesOf (.bool b) a = none := fun a => by cases a <;> rfl
  have l0 : ∀ a, lendsOf (.bool b) a = none := fun a => by cases a <;> rfl
  simp [callA, argsA, e, e0, g0, l0, givesL, lendsL, h.gives, h.lends, hc, backA, resA]
section
variable (n d : Nat) (hn : 100000 ≤ n) (D : Nat) (s : St)
include hn
theorem cMade {w : AV} {v : Nat} (h : Num w v) (neg : Bool) : callA cfg0 (evalFn Tryd.prog cfg0 n (d+2)) D s 38 [.bool neg, w] = some (madeV (sgn neg v), s) := by
  obtain ⟨l, hs, hl, hk, rfl⟩ := h
  exact callA_bS _ D s _ hs neg _ fun g => made_eq n d neg g l hl (by omega) (by omega)
omit hn in
theorem Num.isL {w : AV} {v : Nat} (h : Num w v) (ht : isTree w = true) : ∃ g l, w = encL g l ∧ Limbs l ∧ l.length ≤ 1000 ∧ val l = v := by
  obtain ⟨l, ⟨g, rfl⟩, hl, hk, hv⟩ := h
  cases g with
  | tight => exact ⟨.t, l, rfl, hl, hk, hv⟩
  | loose => exact ⟨.l, l, rfl, hl, hk, hv⟩
  | nil => exact ⟨.n, l, rfl, hl, hk, hv⟩
  | tok p t => simp [isTree] at ht
theorem qMade {w : AV} {v : Nat} (h : Num w v) (ht : isTree w = true) (neg : Bool) : callQ (evalFn Tryd.prog cfg0 n (d+2)) 38 [.bool neg, w] = some (madeV (sgn neg v)) := by
  obtain ⟨g, l, rfl, hl, hk, rfl⟩ := h.isL ht
  exact callQ_trees (by cases g <;> rfl) (made_eq n d neg g l hl (by omega) (by omega))
theorem qAdd {w w' : AV} {v v' : Nat} (h : Num w v) (h' : Num w' v') (ht : isTree w = true) (ht' : isTree w' = true) : callQ (evalFn Tryd.prog cfg0 n (d+2)) 59 [w, w'] = some (encR (v + v')) := by
  obtain ⟨g, l, rfl, hl, hk, rfl⟩ := h.isL ht
  obtain ⟨g', l', rfl, hl', hk', rfl⟩ := h'.isL ht'
  exact callQ_trees (by cases g <;> cases g' <;> rfl) (fnAdd_eq n d g g' l l' hl hl' (by omega) (by omega) (by omega) (by omega))
theorem qSub {w w' : AV} {v v' : Nat} (h : Num w v) (h' : Num w' v') (ht : isTree w = true) (ht' : isTree w' = true) : callQ (evalFn Tryd.prog cfg0 n (d+4)) 63 [w, w'] = some (encR (v - v')) := by
  obtain ⟨g, l, rfl, hl, hk, rfl⟩ := h.isL ht
  obtain ⟨g', l', rfl, hl', hk', rfl⟩ := h'.isL ht'
  exact callQ_trees (by cases g <;> cases g' <;> rfl) (fnSub_eq n d g g' l l' hl hl' (by omega) (by omega) (by omega) (by omega))
theorem qMul {w w' : AV} {v v' : Nat} (h : Num w v) (h' : Num w' v') (ht : isTree w = true) (ht' : isTree w' = true) : callQ (evalFn Tryd.prog cfg0 n (d+2)) 39 [w, w'] = some (encR (v * v')) := by
  obtain ⟨g, l, rfl, hl, hk, rfl⟩ := h.isL ht
  obtain ⟨g', l', rfl, hl', hk', rfl⟩ := h'.isL ht'
  exact callQ_trees (by cases g <;> cases g' <;> rfl) (fnMul_eq n d g g' l l' hl hl' (by omega) (by omega) (by omega))
theorem qShl {w : AV} {v : Nat} (h : Num w v) (ht : isTree w = true) (z : Int) : callQ (evalFn Tryd.prog cfg0 n (d+2)) 65 [w, .int .i64 z] = some (encR (v * 2 ^ shn z)) := by
  obtain ⟨g, l, rfl, hl, hk, rfl⟩ := h.isL ht
  exact callQ_trees (by cases g <;> rfl) (fnShl_eq n d g l z hl (by omega) (by omega))
end
theorem tree_R (v : Nat) : isTree (encR v) = true := by
  unfold encR; split <;> rfl
theorem tree_L (g : Gk) (l : List Nat) : isTree (encL g l) = true := by cases g <;> rfl
theorem tree_Z (z : Int) : isTree (encZ z) = true := rfl

/-! ### Of -/
theorem conv3_55 (s : St) (z : Int) (h : -9223372036854775808 ≤ z) (h' : z ≤ 9223372036854775807) : convA Tryd.prog 3 55 s (.int .i64 z) = some (.int .u64 (((if z < 0 then 18446744073709551616 - z.natAbs else z.natAbs : Nat)) : Int)) := by
  simp only [convA, tk3, tk40, IntKind.wrap, IntKind.bits, IntKind.signed]
  congr 2
  simp only [Bool.false_and, Bool.false_eq_true, if_false]
  rw [show (2 : Int) ^ 64 = 18446744073709551616 from rfl]
  split <;> omega
theorem un_neg64 (x : Nat) (h : x < 18446744073709551616) : unA .neg (.int .u64 (x : Int)) = some (.int .u64 (((18446744073709551616 - x) % 18446744073709551616 : Nat) : Int)) := by
  simp only [unA, IntKind.wrap, IntKind.bits, IntKind.signed]
  congr 2
  simp; omega
def two22 (v w : AV) : Option AV := (fillA (fun i => some (i * 1, 1)) (rep 2 [AV.int .u32 0]) [(0, v), (1, w)]).map (AV.sl · 2 .tight)
theorem two22_int (x y : Int) : two22 (.int .u32 x) (.int .u32 y) = some (.sl [.int .u32 x, .int .u32 y] 2 .tight) := rfl
theorem opA_two (call : FuncId → List Arg → Option Out) (q : Bool) (d : Option Tmp) (ty : TypeId) (pos : String) (af : Array Edge) (g : Option (Nat × Bool)) (t : Nat) (env : Env) (s : St) (x y : Operand) :
    opA Tryd.prog cfg0 call q ⟨d, .buildSlice 22 2 #[(0, x), (1, y)], ty, pos, af, g⟩ t env s = (two22 (ev env x) (ev env y)).map (·, s) := by
  rw [opA_bs]
  simp only [tk22, esz31, zero31, Option.bind_some, List.map_cons, List.map_nil]
  rfl
theorem madeV_fit {z : Int} (h : z.natAbs < B ^ 12) : madeV z = .tup [encZ z, .bool true] := by rw [madeV, mkZ_fit h]
theorem B12_big : 18446744073709551616 ≤ B ^ 12 := by
  have : B ^ 2 ≤ B ^ 12 := Nat.pow_le_pow_right (by decide) (by decide)
  have e : B ^ 2 = 18446744073709551616 := by decide
  omega
theorem ext_0 (a b : AV) : extA 0 (.tup [a, b]) = some a := rfl
theorem ext_1 (a b : AV) : extA 1 (.tup [a, b]) = some b := rfl
theorem st_Z (s : St) (p k : Nat) (z : Int) : storeA Tryd.prog 24 s (.ptr p k 0) (encZ z) = stE (s p) p k s [.bool (decide (z < 0)), encR z.natAbs] := st_24 s p k _ _
set_option maxHeartbeats 2000000 in
theorem of64_eq (n d : Nat) (hn : 100000 ≤ n) (z : Int) (h : -9223372036854775808 ≤ z) (h' : z ≤ 9223372036854775807) : evalFn Tryd.prog cfg0 n (d+3) 15 [.tree (.int .i64 z)] = some (.tree (encZ z), [[]]) := by
  rw [evalFn_go _ Tryd.func15 (by unfold Tryd.f15; rfl) (by unfold Tryd.f15; decide) (Nat.le_of_ble_eq_true (by unfold Tryd.f15; rfl)) (by kernel_rfl)]
  have hz : z.natAbs ≤ 9223372036854775808 := by omega
  have hfit : z.natAbs < B ^ 12 := by have := B12_big; omega
  have c0 := fun s => conv3_55 s z h h'
  have key : ∀ (x : Nat), x = z.natAbs → x < 18446744073709551616 →
      (∀ s, convA Tryd.prog 55 48 s (.int .u64 (x : Int)) = some (.int .u32 ((x % 4294967296 : Nat) : Int))) ∧
      binA Tryd.prog .shr 55 (.int .u64 (x : Int)) (.int .u64 32) = some (.int .u64 ((x / 4294967296 : Nat) : Int)) ∧
      (∀ s, convA Tryd.prog 55 48 s (.int .u64 ((x / 4294967296 : Nat) : Int)) = some (.int .u32 ((x / 4294967296 % 4294967296 : Nat) : Int))) ∧
      (∀ D s, callA cfg0 (evalFn Tryd.prog cfg0 n (d+2)) D s 38 [.bool (decide (z < 0)), .sl [.int .u32 ((x % 4294967296 : Nat) : Int), .int .u32 ((x / 4294967296 % 4294967296 : Nat) : Int)] 2 .tight] = some (.tup [encZ z, .bool true], s)) := by
    intro x hx hlt
    refine ⟨fun s => conv40_31 s x, ?_, fun s => conv40_31 s _, fun D s => ?_⟩
    · have := u_shr Tryd.prog 55 x .u64 32 (by decide) (by decide)
      rw [show (2 : Nat) ^ (32 : Int).toNat = 4294967296 from rfl] at this
      exact this
    · have hnum : Num (.sl [.int .u32 ((x % 4294967296 : Nat) : Int), .int .u32 ((x / 4294967296 % 4294967296 : Nat) : Int)] 2 .tight) x := by
        refine ⟨[x % 4294967296, x / 4294967296 % 4294967296], ⟨_, rfl⟩, limbs_cons (Nat.mod_lt _ (by decide)) (limbs_one (Nat.mod_lt _ (by decide))), by simp, ?_⟩
        show x % 4294967296 + 4294967296 * (x / 4294967296 % 4294967296 + 4294967296 * 0) = x
        omega
      have := cMade n d hn D s hnum (decide (z < 0))
      rw [hx, sgn_of, madeV_fit hfit] at this
      rw [hx]; exact this
  by_cases hneg : z < 0
  · rw [if_pos hneg] at c0
    have u := un_neg64 (18446744073709551616 - z.natAbs) (by omega)
    rw [show (18446744073709551616 - (18446744073709551616 - z.natAbs)) % 18446744073709551616 = z.natAbs by omega] at u
    obtain ⟨k1, k2, k3, k4⟩ := key z.natAbs rfl (by omega)
    rw [decide_eq_true hneg] at k4
    simp only [den_seq, den_region, den_regionT, kill_nil, kill_cons, killM_none, killM_some, fr_move, fr_assign, fr_pick, fr_bin, fr_un, fr_conv, fr_extract, fr_load, fr_store, fr_fa, fr_fd, fr_ia, fr_index, fr_slice, fr_build, fr_bs, fr_box, fr_nil, fr_blt, fr_tmp, fr_call, fr_callg, fr_alloc, fr_allocg, fr_make, fr_makeg, keep0, callQQ_f, callQQ_t, Nat.reduceBEq, Bool.or_self, Bool.or_false, Bool.or_true, Bool.and_true, Bool.and_false, Bool.true_and, Bool.false_and, Option.isNone_none, Option.isNone_some, Option.isSome_some, Option.isSome_none, den_ret, den_skip, den_label, den_exit, den_block, den_scope, den_condV, condV_bool, ops1_cons, ops1_guarded, guardV_bool, guardV_tup, guardD_0, guardD_s, ops1_nil, seqK_normal, seqK_ret, seqK_exit, blockK_normal, blockK_exit, blockK_ret, loopK_normal, loopK_exit, loopK_ret, finK_normal, finK_ret, opK_some, opA_move, opA_assign, opA_pick, pickA_bool, opA_len, opA_bin, opA_un, opA_ia, opA_load, opA_store, opA_conv, opA_make, opA_append, opA_copy, opA_max, opA_min, opA_slice, opA_call, opA_callq, opA_extract, extA_tup, Option.getD_some, Option.getD_none, setO_some, setO_none, ev_tmp, ev_int, ev_bool, ev_nil, ev_fn, upd_at, Option.map_some, Option.map_none, Option.bind_some, List.map_cons, List.map_nil, List.cons_append, List.nil_append, ↓reduceIte, Nat.reduceEqDiff, Nat.reduceAdd, decide_true, decide_false, Bool.true_eq_false, Bool.false_eq_true, env0, List.getElem?_cons_zero, List.getElem?_cons_succ, len22, lenN22, k_lss, k_leq, k_gtr, k_geq, k_eql, k_neq, ia22, ld31, conv31_40, conv40_31, opA_box, opA_alloc, opA_fa, opA_fd, opA_build, box_agg, dead_t, ld_ptr, ldE_24, ldE_4, ldE_22, st_24, stE_buf, fa_0, fa_1, faE_buf, bd_0, bd_2, bd_2R, fd_1, zero24, Nat.zero_add, st0_1, c0, hneg, u, k1, k2, k3, opA_two, two22_int, k4, ext_0, ext_1, st_Z]
    exact finish_c _ _ 2 2 1 _ _ _ _ _ (by simp only [upd_at, ↓reduceIte, Nat.reduceEqDiff]) (by simp only [upd_at, ↓reduceIte, Nat.reduceEqDiff, hneg, decide_true, decide_false]) rfl
  · rw [if_neg hneg] at c0
    obtain ⟨k1, k2, k3, k4⟩ := key z.natAbs rfl (by omega)
    rw [decide_eq_false hneg] at k4
    simp only [den_seq, den_region, den_regionT, kill_nil, kill_cons, killM_none, killM_some, fr_move, fr_assign, fr_pick, fr_bin, fr_un, fr_conv, fr_extract, fr_load, fr_store, fr_fa, fr_fd, fr_ia, fr_index, fr_slice, fr_build, fr_bs, fr_box, fr_nil, fr_blt, fr_tmp, fr_call, fr_callg, fr_alloc, fr_allocg, fr_make, fr_makeg, keep0, callQQ_f, callQQ_t, Nat.reduceBEq, Bool.or_self, Bool.or_false, Bool.or_true, Bool.and_true, Bool.and_false, Bool.true_and, Bool.false_and, Option.isNone_none, Option.isNone_some, Option.isSome_some, Option.isSome_none, den_ret, den_skip, den_label, den_exit, den_block, den_scope, den_condV, condV_bool, ops1_cons, ops1_guarded, guardV_bool, guardV_tup, guardD_0, guardD_s, ops1_nil, seqK_normal, seqK_ret, seqK_exit, blockK_normal, blockK_exit, blockK_ret, loopK_normal, loopK_exit, loopK_ret, finK_normal, finK_ret, opK_some, opA_move, opA_assign, opA_pick, pickA_bool, opA_len, opA_bin, opA_un, opA_ia, opA_load, opA_store, opA_conv, opA_make, opA_append, opA_copy, opA_max, opA_min, opA_slice, opA_call, opA_callq, opA_extract, extA_tup, Option.getD_some, Option.getD_none, setO_some, setO_none, ev_tmp, ev_int, ev_bool, ev_nil, ev_fn, upd_at, Option.map_some, Option.map_none, Option.bind_some, List.map_cons, List.map_nil, List.cons_append, List.nil_append, ↓reduceIte, Nat.reduceEqDiff, Nat.reduceAdd, decide_true, decide_false, Bool.true_eq_false, Bool.false_eq_true, env0, List.getElem?_cons_zero, List.getElem?_cons_succ, len22, lenN22, k_lss, k_leq, k_gtr, k_geq, k_eql, k_neq, ia22, ld31, conv31_40, conv40_31, opA_box, opA_alloc, opA_fa, opA_fd, opA_build, box_agg, dead_t, ld_ptr, ldE_24, ldE_4, ldE_22, st_24, stE_buf, fa_0, fa_1, faE_buf, bd_0, bd_2, bd_2R, fd_1, zero24, Nat.zero_add, st0_1, c0, hneg, k1, k2, k3, opA_two, two22_int, k4, ext_0, ext_1, st_Z]
    exact finish_c _ _ 2 2 1 _ _ _ _ _ (by simp only [upd_at, ↓reduceIte, Nat.reduceEqDiff]) (by simp only [upd_at, ↓reduceIte, Nat.reduceEqDiff, hneg, decide_true, decide_false]) rfl
theorem cOf64 (n d : Nat) (hn : 100000 ≤ n) (z : Int) (h : -9223372036854775808 ≤ z) (h' : z ≤ 9223372036854775807) (D : Nat) (s : St) : callA cfg0 (evalFn Tryd.prog cfg0 n (d+3)) D s 15 [.int .i64 z] = some (encZ z, s) :=
  callA_trees rfl (of64_eq n d hn z h h')

/-! ### Neg, Bits -/
theorem sgn_flip (z : Int) : sgn (!decide (z < 0)) z.natAbs = -z := by
  unfold sgn
  by_cases h : z < 0
  · simp [h]; omega
  · simp [h]; omega
set_option maxHeartbeats 2000000 in
theorem neg_eq (n d : Nat) (hn : 100000 ≤ n) {w : AV} {z : Int} (hw : IsN w z) : evalFn Tryd.prog cfg0 n (d+3) 22 [.tree w] = some (.tree (encZ (-z)), [[]]) := by
  obtain ⟨g, c1⟩ := cOf n d hw
  have hlt := hw.lt
  obtain ⟨neg, g0, l, rfl, hl, hz⟩ := hw
  rw [evalFn_go _ Tryd.func22 (by unfold Tryd.f22; rfl) (by unfold Tryd.f22; decide) (Nat.le_of_ble_eq_true (by unfold Tryd.f22; rfl)) (by kernel_rfl)]
  have c2 := fun D s => cMade n d hn D s (num_can g z hlt) (!decide (z < 0))
  rw [sgn_flip, madeV_fit (by omega)] at c2
  simp only [den_seq, den_region, den_regionT, kill_nil, kill_cons, killM_none, killM_some, fr_move, fr_assign, fr_pick, fr_bin, fr_un, fr_conv, fr_extract, fr_load, fr_store, fr_fa, fr_fd, fr_ia, fr_index, fr_slice, fr_build, fr_bs, fr_box, fr_nil, fr_blt, fr_tmp, fr_call, fr_callg, fr_alloc, fr_allocg, fr_make, fr_makeg, keep0, callQQ_f, callQQ_t, Nat.reduceBEq, Bool.or_self, Bool.or_false, Bool.or_true, Bool.and_true, Bool.and_false, Bool.true_and, Bool.false_and, Option.isNone_none, Option.isNone_some, Option.isSome_some, Option.isSome_none, den_ret, den_skip, den_label, den_exit, den_block, den_scope, den_condV, condV_bool, ops1_cons, ops1_guarded, guardV_bool, guardV_tup, guardD_0, guardD_s, ops1_nil, seqK_normal, seqK_ret, seqK_exit, blockK_normal, blockK_exit, blockK_ret, loopK_normal, loopK_exit, loopK_ret, finK_normal, finK_ret, opK_some, opA_move, opA_assign, opA_pick, pickA_bool, opA_len, opA_bin, opA_un, opA_ia, opA_load, opA_store, opA_conv, opA_make, opA_append, opA_copy, opA_max, opA_min, opA_slice, opA_call, opA_callq, opA_extract, extA_tup, Option.getD_some, Option.getD_none, setO_some, setO_none, ev_tmp, ev_int, ev_bool, ev_nil, ev_fn, upd_at, Option.map_some, Option.map_none, Option.bind_some, List.map_cons, List.map_nil, List.cons_append, List.nil_append, ↓reduceIte, Nat.reduceEqDiff, Nat.reduceAdd, decide_true, decide_false, Bool.true_eq_false, Bool.false_eq_true, env0, List.getElem?_cons_zero, List.getElem?_cons_succ, len22, lenN22, k_lss, k_leq, k_gtr, k_geq, k_eql, k_neq, ia22, ld31, conv31_40, conv40_31, opA_box, opA_alloc, opA_fa, opA_fd, opA_build, box_agg, dead_t, ld_ptr, ldE_24, ldE_4, ldE_22, st_24, stE_buf, fa_0, fa_1, faE_buf, bd_0, bd_2, bd_2R, fd_1, zero24, Nat.zero_add, st0_1, c1, unA_not', c2, ext_0, ext_1, st_Z]
  exact finish_c _ _ 2 2 1 _ _ _ _ _ (by simp only [upd_at, ↓reduceIte, Nat.reduceEqDiff]) (by simp only [upd_at, ↓reduceIte, Nat.reduceEqDiff]) rfl
theorem cNeg (n d : Nat) (hn : 100000 ≤ n) {w : AV} {z : Int} (hw : IsN w z) (D : Nat) (s : St) : callA cfg0 (evalFn Tryd.prog cfg0 n (d+3)) D s 22 [w] = some (encZ (-z), s) :=
  callA_trees (by simp [hw.tree]) (neg_eq n d hn hw)
end Go.Ab
