/- Several texts put together: AbzA5, AbzA6, AbMn2, AbzA7a, AbzA7, AbzA9, AbzT1, AbzT2, AbzT3, AbzT4, AbzT6, AbzX0, AbzT7, AbzT8, AbzT9, AbzT10, AbzT12, AbzT13, AbzT14, AbzT15, AbzT16, AbMono, AbzT17, AbzOp, AbzOp2, AbzT20, AbzT18, AbzT19, AbzR1, AbzR2, AbzR3, AbzR4, AbzR5, AbzR6. Conditions: as each part says. -/
import Derived.Test.YtpgnjcckmmkmkaaGreatDoorAbBAllZ04
import Derived.Test.YtpgnjcckmmkmkaaGreatDoorAbBAllZ03
import Derived.Test.YtpgnjcckmmkmkaaGreatDoorAbBAllZ00
/- Op: sums, differences, products, quotients. Conditions: numbers that are shown. -/
namespace Go.Ab
open Go.Proofs
set_option maxRecDepth 100000
set_option linter.unusedSimpArgs false

theorem cAddC (n d : Nat) (hn : 100000 ≤ n) (g g' : Gk) (z z' : Int) (hlt : z.natAbs < B ^ 12) (hlt' : z'.natAbs < B ^ 12) (D : Nat) (s : St) : callA cfg0 (evalFn Tryz.prog cfg0 n (d+5)) D s 73 [canA g z, canA g' z'] = some (madeV (z + z'), s) :=
  callA_trees rfl (nadd_eq n d hn g g' z z' hlt hlt')
theorem cAddZ (n d : Nat) (hn : 100000 ≤ n) (g : Gk) (z z' : Int) (hlt : z.natAbs < B ^ 12) (hlt' : z'.natAbs < B ^ 12) (D : Nat) (s : St) : callA cfg0 (evalFn Tryz.prog cfg0 n (d+5)) D s 73 [canA g z, .agg [.bool (decide (z' < 0)), encR z'.natAbs]] = some (madeV (z + z'), s) :=
  cAddC n d hn g _ z z' hlt hlt' D s
theorem mul_sgn (a b : Int) : sgn (!(decide (a < 0) == decide (b < 0))) (a.natAbs * b.natAbs) = a * b := by
  have h := Int.natAbs_mul a b
  by_cases ha : a < 0 <;> by_cases hb : b < 0
  · have := Int.mul_pos_of_neg_of_neg ha hb
    simp only [ha, hb, decide_true, beq_self_eq_true, Bool.not_true, sgn, Bool.false_eq_true, if_false]
    rw [← h]; omega
  · have : a * b ≤ 0 := Int.mul_nonpos_of_nonpos_of_nonneg (by omega) (by omega)
    simp only [ha, hb, decide_true, decide_false, sgn, if_true, show (!(true == false)) = true from rfl]
    rw [← h]; omega
  · have : a * b ≤ 0 := Int.mul_nonpos_of_nonneg_of_nonpos (by omega) (by omega)
    simp only [ha, hb, decide_true, decide_false, sgn, if_true, show (!(false == true)) = true from rfl]
    rw [← h]; omega
  · have : 0 ≤ a * b := Int.mul_nonneg (by omega) (by omega)
    simp only [ha, hb, decide_false, beq_self_eq_true, Bool.not_true, sgn, Bool.false_eq_true, if_false]
    rw [← h]; omega
theorem nat_tdiv (x y : Nat) : (x : Int).tdiv (y : Int) = ((x / y : Nat) : Int) := rfl
theorem nat_tmod (x y : Nat) : (x : Int).tmod (y : Int) = ((x % y : Nat) : Int) := rfl
theorem abs_neg' {a : Int} (h : a < 0) : a = -(a.natAbs : Int) := by omega
theorem abs_pos' {a : Int} (h : ¬ a < 0) : a = (a.natAbs : Int) := by omega
theorem quo_sgn (a b : Int) : sgn (!(decide (a < 0) == decide (b < 0))) (a.natAbs / b.natAbs) = a.tdiv b := by
  by_cases ha : a < 0 <;> by_cases hb : b < 0 <;> simp only [ha, hb, decide_true, decide_false, beq_self_eq_true, Bool.not_true, sgn, Bool.false_eq_true, if_false, show (!(true == false)) = true from rfl, show (!(false == true)) = true from rfl, if_true]
  · have h1 := abs_neg' ha; have h2 := abs_neg' hb
    generalize a.natAbs = x at *; generalize b.natAbs = y at *
    subst h1 h2; rw [Int.neg_tdiv, Int.tdiv_neg, Int.neg_neg, nat_tdiv]
  · have h1 := abs_neg' ha; have h2 := abs_pos' hb
    generalize a.natAbs = x at *; generalize b.natAbs = y at *
    subst h1 h2; rw [Int.neg_tdiv, nat_tdiv]
  · have h1 := abs_pos' ha; have h2 := abs_neg' hb
    generalize a.natAbs = x at *; generalize b.natAbs = y at *
    subst h1 h2; rw [Int.tdiv_neg, nat_tdiv]
  · have h1 := abs_pos' ha; have h2 := abs_pos' hb
    generalize a.natAbs = x at *; generalize b.natAbs = y at *
    subst h1 h2; rw [nat_tdiv]
theorem rem_sgn (a b : Int) : sgn (decide (a < 0)) (a.natAbs % b.natAbs) = a.tmod b := by
  by_cases ha : a < 0 <;> by_cases hb : b < 0 <;> simp only [ha, decide_true, decide_false, sgn, Bool.false_eq_true, if_false, if_true]
  · have h1 := abs_neg' ha; have h2 := abs_neg' hb
    generalize a.natAbs = x at *; generalize b.natAbs = y at *
    subst h1 h2; rw [Int.neg_tmod, Int.tmod_neg, nat_tmod]
  · have h1 := abs_neg' ha; have h2 := abs_pos' hb
    generalize a.natAbs = x at *; generalize b.natAbs = y at *
    subst h1 h2; rw [Int.neg_tmod, nat_tmod]
  · have h1 := abs_pos' ha; have h2 := abs_neg' hb
    generalize a.natAbs = x at *; generalize b.natAbs = y at *
    subst h1 h2; rw [Int.tmod_neg, nat_tmod]
  · have h1 := abs_pos' ha; have h2 := abs_pos' hb
    generalize a.natAbs = x at *; generalize b.natAbs = y at *
    subst h1 h2; rw [nat_tmod]
theorem st0_3' (u v w : AV) : st0 [.tree u, .tree v, .tree w] = dead := by
  funext j
  match j with
  | 0 | 1 | 2 | _ + 3 => simp [st0, dead]

section
variable (n d : Nat) (hn : 100000 ≤ n) {w w' : AV} {z z' : Int} (hw : IsN w z) (hw' : IsN w' z')
include hn hw hw'
set_option maxHeartbeats 8000000
theorem op1_eq : evalFn Tryz.prog cfg0 n (d+6) 49 [.tree (.int .i64 1), .tree w, .tree w'] = some (.tree (madeV (z + z')), [[], [], []]) := by
  obtain ⟨g, c1⟩ := qOf n (d + 3) hw
  obtain ⟨g', c2⟩ := qOf n (d + 3) hw'
  have hlt := hw.lt
  have hlt' := hw'.lt
  obtain ⟨neg, g0, l, rfl, hl, hz⟩ := hw
  obtain ⟨neg', g0', l', rfl, hl', hz'⟩ := hw'
  rw [evalFn_go _ Tryz.func49 (by unfold Tryz.f49; rfl) (by unfold Tryz.f49; decide) (Nat.le_of_ble_eq_true (by unfold Tryz.f49; rfl)) (by kernel_rfl)]
  have c3 := fun D s => cAddC n d hn g g' z z' hlt hlt' D s
  simp only [simB, zbo, Nat.reduceBEq, own0, ↓reduceIte, Nat.reduceEqDiff, Nat.reduceAdd, env0, List.getElem?_cons_zero, List.getElem?_cons_succ, zdv, zdw, zdx, zdy, zdz, zea, zeb, zec, ia22, ld31, zed, zee, zef, zeg, zeh, zei, zej, zek, zel, zem, zen, zeo, zep, zeq, zer, fa_0, fa_1, zes, bd_0, bd_2, zet, fd_1, zeu, Nat.zero_add, st0_3', c1, c2, Int.reduceBEq, c3, madeV_eq, ext_0, ext_1, st_Z]
  exact finish_ct _ _ 6 6 1 _ _ _ _ _ _ _ (by simp only [zfp, ↓reduceIte, Nat.reduceEqDiff]) (by simp only [zfp, ↓reduceIte, Nat.reduceEqDiff]) (by simp only [zfp, ↓reduceIte, Nat.reduceEqDiff]) rfl
theorem op2_eq : evalFn Tryz.prog cfg0 n (d+6) 49 [.tree (.int .i64 2), .tree w, .tree w'] = some (.tree (madeV (z - z')), [[], [], []]) := by
  obtain ⟨g, c1⟩ := qOf n (d + 3) hw
  obtain ⟨g', c2⟩ := qOf n (d + 3) hw'
  have hlt := hw.lt
  have hlt' := hw'.lt
  obtain ⟨neg, g0, l, rfl, hl, hz⟩ := hw
  obtain ⟨neg', g0', l', rfl, hl', hz'⟩ := hw'
  rw [evalFn_go _ Tryz.func49 (by unfold Tryz.f49; rfl) (by unfold Tryz.f49; decide) (Nat.le_of_ble_eq_true (by unfold Tryz.f49; rfl)) (by kernel_rfl)]
  have c4 := fun D s => cNeg n (d + 2) hn (isN_can g' z' hlt') D s
  have c3 := fun D s => cAddZ n d hn g z (-z') hlt (by omega) D s
  rw [show z + -z' = z - z' by omega] at c3
  simp only [simB, zbo, Nat.reduceBEq, own0, ↓reduceIte, Nat.reduceEqDiff, Nat.reduceAdd, env0, List.getElem?_cons_zero, List.getElem?_cons_succ, zdv, zdw, zdx, zdy, zdz, zea, zeb, zec, ia22, ld31, zed, zee, zef, zeg, zeh, zei, zej, zek, zel, zem, zen, zeo, zep, zeq, zer, fa_0, fa_1, zes, bd_0, bd_2, zet, fd_1, zeu, Nat.zero_add, st0_3', c1, c2, Int.reduceBEq, c4, c3, madeV_eq, ext_0, ext_1, st_Z]
  exact finish_ct _ _ 6 6 1 _ _ _ _ _ _ _ (by simp only [zfp, ↓reduceIte, Nat.reduceEqDiff]) (by simp only [zfp, ↓reduceIte, Nat.reduceEqDiff]) (by simp only [zfp, ↓reduceIte, Nat.reduceEqDiff]) rfl
theorem op3_eq : evalFn Tryz.prog cfg0 n (d+6) 49 [.tree (.int .i64 3), .tree w, .tree w'] = some (.tree (madeV (z * z')), [[], [], []]) := by
  obtain ⟨g, c1⟩ := qOf n (d + 3) hw
  obtain ⟨g', c2⟩ := qOf n (d + 3) hw'
  have hlt := hw.lt
  have hlt' := hw'.lt
  obtain ⟨neg, g0, l, rfl, hl, hz⟩ := hw
  obtain ⟨neg', g0', l', rfl, hl', hz'⟩ := hw'
  rw [evalFn_go _ Tryz.func49 (by unfold Tryz.f49; rfl) (by unfold Tryz.f49; decide) (Nat.le_of_ble_eq_true (by unfold Tryz.f49; rfl)) (by kernel_rfl)]
  have en := bool_neq 4 tk4
  have c3 := qMul n (d + 3) hn (num_can g z hlt) (num_can g' z' hlt') (tree_L _ _) (tree_L _ _)
  have hp : z.natAbs * z'.natAbs < B ^ 24 := by rw [show (24 : Nat) = 12 + 12 from rfl, Nat.pow_add]; exact Nat.mul_lt_mul'' hlt hlt'
  have c4 := qMade n (d + 3) hn (num_R _ 24 (by decide) hp) (tree_R _) (!(decide (z < 0) == decide (z' < 0)))
  rw [mul_sgn] at c4
  simp only [simB, zbo, Nat.reduceBEq, own0, ↓reduceIte, Nat.reduceEqDiff, Nat.reduceAdd, env0, List.getElem?_cons_zero, List.getElem?_cons_succ, zdv, zdw, zdx, zdy, zdz, zea, zeb, zec, ia22, ld31, zed, zee, zef, zeg, zeh, zei, zej, zek, zel, zem, zen, zeo, zep, zeq, zer, fa_0, fa_1, zes, bd_0, bd_2, zet, fd_1, zeu, Nat.zero_add, st0_3', c1, c2, Int.reduceBEq, en, c3, c4, madeV_eq, ext_0, ext_1, st_Z]
  exact finish_ct _ _ 6 6 1 _ _ _ _ _ _ _ (by simp only [zfp, ↓reduceIte, Nat.reduceEqDiff]) (by simp only [zfp, ↓reduceIte, Nat.reduceEqDiff]) (by simp only [zfp, ↓reduceIte, Nat.reduceEqDiff]) rfl
theorem op4_eq : evalFn Tryz.prog cfg0 n (d+6) 49 [.tree (.int .i64 4), .tree w, .tree w'] = some (.tree (if z' = 0 then .tup [encZ 0, .bool false] else madeV (z.tdiv z')), [[], [], []]) := by
  obtain ⟨g, c1⟩ := qOf n (d + 3) hw
  obtain ⟨g', c2⟩ := qOf n (d + 3) hw'
  have hlt := hw.lt
  have hlt' := hw'.lt
  obtain ⟨neg, g0, l, rfl, hl, hz⟩ := hw
  obtain ⟨neg', g0', l', rfl, hl', hz'⟩ := hw'
  rw [evalFn_go _ Tryz.func49 (by unfold Tryz.f49; rfl) (by unfold Tryz.f49; decide) (Nat.le_of_ble_eq_true (by unfold Tryz.f49; rfl)) (by kernel_rfl)]
  by_cases h0 : z' = 0
  · have p0 : (((digs z'.natAbs).length : Int) == 0) = true := by rw [h0]; simp [digs_0]
    rw [if_pos h0, encZ_0]
    simp only [simB, zbo, Nat.reduceBEq, own0, ↓reduceIte, Nat.reduceEqDiff, Nat.reduceAdd, env0, List.getElem?_cons_zero, List.getElem?_cons_succ, zdv, zdw, zdx, zdy, zdz, zea, zeb, zec, ia22, ld31, zed, zee, zef, zeg, zeh, zei, zej, zek, zel, zem, zen, zeo, zep, zeq, zer, fa_0, fa_1, zes, bd_0, bd_2, zet, fd_1, zeu, Nat.zero_add, st0_3', c1, c2, Int.reduceBEq, p0]
    exact finish_ct _ _ 6 6 1 _ _ _ _ _ _ _ (by simp only [zfp, ↓reduceIte, Nat.reduceEqDiff]) (by simp only [zfp, ↓reduceIte, Nat.reduceEqDiff]) (by simp only [zfp, ↓reduceIte, Nat.reduceEqDiff]) rfl
  · have p0 : (((digs z'.natAbs).length : Int) == 0) = false := by
      rw [beq_eq_false_iff_ne]
      intro h
      have := (digs_len0 z'.natAbs).mp (by omega)
      omega
    rw [if_neg h0]
    have en := bool_neq 4 tk4
    have hz0 : z'.natAbs ≠ 0 := by omega
    have c3 := fun D s => cDivS n d hn D s (sh_L g (digs z.natAbs)) (sh_L g' (digs z'.natAbs)) (limbs_digs _) (limbs_digs _) (by have := digs_len _ 12 hlt; omega) (by have := digs_len _ 12 hlt'; omega)
    simp only [val_digs, if_neg hz0] at c3
    have c4 := fun D s => cMade n (d + 3) hn D s (num_R (z.natAbs / z'.natAbs) 12 (by decide) (Nat.lt_of_le_of_lt (Nat.div_le_self _ _) hlt)) (!(decide (z < 0) == decide (z' < 0)))
    rw [quo_sgn] at c4
    simp only [simB, zbo, Nat.reduceBEq, own0, ↓reduceIte, Nat.reduceEqDiff, Nat.reduceAdd, env0, List.getElem?_cons_zero, List.getElem?_cons_succ, zdv, zdw, zdx, zdy, zdz, zea, zeb, zec, ia22, ld31, zed, zee, zef, zeg, zeh, zei, zej, zek, zel, zem, zen, zeo, zep, zeq, zer, fa_0, fa_1, zes, bd_0, bd_2, zet, fd_1, zeu, Nat.zero_add, st0_3', c1, c2, Int.reduceBEq, p0, en, c3, c4, madeV_eq, ext_0, ext_1, st_Z]
    exact finish_ct _ _ 6 6 1 _ _ _ _ _ _ _ (by simp only [zfp, ↓reduceIte, Nat.reduceEqDiff]) (by simp only [zfp, ↓reduceIte, Nat.reduceEqDiff]) (by simp only [zfp, ↓reduceIte, Nat.reduceEqDiff]) rfl
theorem op5_eq : evalFn Tryz.prog cfg0 n (d+6) 49 [.tree (.int .i64 5), .tree w, .tree w'] = some (.tree (if z' = 0 then .tup [encZ 0, .bool false] else madeV (z.tmod z')), [[], [], []]) := by
  obtain ⟨g, c1⟩ := qOf n (d + 3) hw
  obtain ⟨g', c2⟩ := qOf n (d + 3) hw'
  have hlt := hw.lt
  have hlt' := hw'.lt
  obtain ⟨neg, g0, l, rfl, hl, hz⟩ := hw
  obtain ⟨neg', g0', l', rfl, hl', hz'⟩ := hw'
  rw [evalFn_go _ Tryz.func49 (by unfold Tryz.f49; rfl) (by unfold Tryz.f49; decide) (Nat.le_of_ble_eq_true (by unfold Tryz.f49; rfl)) (by kernel_rfl)]
  by_cases h0 : z' = 0
  · have p0 : (((digs z'.natAbs).length : Int) == 0) = true := by rw [h0]; simp [digs_0]
    rw [if_pos h0, encZ_0]
    simp only [simB, zbo, Nat.reduceBEq, own0, ↓reduceIte, Nat.reduceEqDiff, Nat.reduceAdd, env0, List.getElem?_cons_zero, List.getElem?_cons_succ, zdv, zdw, zdx, zdy, zdz, zea, zeb, zec, ia22, ld31, zed, zee, zef, zeg, zeh, zei, zej, zek, zel, zem, zen, zeo, zep, zeq, zer, fa_0, fa_1, zes, bd_0, bd_2, zet, fd_1, zeu, Nat.zero_add, st0_3', c1, c2, Int.reduceBEq, p0]
    exact finish_ct _ _ 6 6 1 _ _ _ _ _ _ _ (by simp only [zfp, ↓reduceIte, Nat.reduceEqDiff]) (by simp only [zfp, ↓reduceIte, Nat.reduceEqDiff]) (by simp only [zfp, ↓reduceIte, Nat.reduceEqDiff]) rfl
  · have p0 : (((digs z'.natAbs).length : Int) == 0) = false := by
      rw [beq_eq_false_iff_ne]
      intro h
      have := (digs_len0 z'.natAbs).mp (by omega)
      omega
    rw [if_neg h0]
    have hz0 : z'.natAbs ≠ 0 := by omega
    have c3 := fun D s => cDivS n d hn D s (sh_L g (digs z.natAbs)) (sh_L g' (digs z'.natAbs)) (limbs_digs _) (limbs_digs _) (by have := digs_len _ 12 hlt; omega) (by have := digs_len _ 12 hlt'; omega)
    simp only [val_digs, if_neg hz0] at c3
    have c4 := fun D s => cMade n (d + 3) hn D s (num_R (z.natAbs % z'.natAbs) 12 (by decide) (Nat.lt_of_le_of_lt (Nat.mod_le _ _) hlt)) (decide (z < 0))
    rw [rem_sgn] at c4
    simp only [simB, zbo, Nat.reduceBEq, own0, ↓reduceIte, Nat.reduceEqDiff, Nat.reduceAdd, env0, List.getElem?_cons_zero, List.getElem?_cons_succ, zdv, zdw, zdx, zdy, zdz, zea, zeb, zec, ia22, ld31, zed, zee, zef, zeg, zeh, zei, zej, zek, zel, zem, zen, zeo, zep, zeq, zer, fa_0, fa_1, zes, bd_0, bd_2, zet, fd_1, zeu, Nat.zero_add, st0_3', c1, c2, Int.reduceBEq, p0, c3, c4, madeV_eq, ext_0, ext_1, st_Z]
    exact finish_ct _ _ 6 6 1 _ _ _ _ _ _ _ (by simp only [zfp, ↓reduceIte, Nat.reduceEqDiff]) (by simp only [zfp, ↓reduceIte, Nat.reduceEqDiff]) (by simp only [zfp, ↓reduceIte, Nat.reduceEqDiff]) rfl
end
end Go.Ab

/- A number as an int, if it is one. Conditions: numbers that are shown. -/
namespace Go.Ab
open Go.Proofs
set_option maxRecDepth 100000
set_option linter.unusedSimpArgs false

def isI64 (z : Int) : Bool := decide (-9223372036854775808 ≤ z) && decide (z < 9223372036854775808)
def intZ (z : Int) : AV := if isI64 z = true then .tup [.int .i64 z, .bool true] else .tup [.int .i64 0, .bool false]
theorem finish_ib (k : Bool) (xs : List Arg) (t u : Nat) (env : Env) (s : St) (z : Int) (b : Bool) (os : List (List AV)) (hv : env t = .int .i64 z) (hu : env u = .bool b) (ho : outsA s 0 xs = some os) :
    finishP Tryz.prog k xs #[.tmp t, .tmp u] env s = some (.tree (.tup [.int .i64 z, .bool b]), os) := by
  simp only [finishP_t2, finish, List.mapM_cons, List.mapM_nil, hv, hu, Option.pure_def, Option.bind_eq_bind, Option.bind_some, settleL, settle, Option.map_some, ho]
theorem conv55_3 (s : St) (x : Nat) (h : x < 18446744073709551616) : convA Tryz.prog 96 3 s (.int .u64 (x : Int)) = some (.int .i64 (if x < 9223372036854775808 then (x : Int) else (x : Int) - 18446744073709551616)) := by
  have e : IntKind.i64.wrap (x : Int) = if x < 9223372036854775808 then (x : Int) else (x : Int) - 18446744073709551616 := by
    simp [IntKind.wrap, IntKind.bits, IntKind.signed]
    (repeat' split) <;> omega
  simp only [convA, tk3, tk40, e]
theorem len2_val (l : List Nat) (hl : Limbs l) (h : l.length ≤ 2) : val l < 18446744073709551616 := by
  have := val_lt l hl
  have h2 : B ^ l.length ≤ B ^ 2 := Nat.pow_le_pow_right (by decide) h
  have e : B ^ 2 = 18446744073709551616 := by decide
  omega
set_option maxHeartbeats 4000000 in
theorem int_eq (n d : Nat) (hn : 100000 ≤ n) {w : AV} {z : Int} (hw : IsN w z) : evalFn Tryz.prog cfg0 n (d+3) 58 [.tree w] = some (.tree (intZ z), [[]]) := by
  obtain ⟨g, c1⟩ := cOf n d hw
  have hlt := hw.lt
  obtain ⟨neg0, g0, l0, rfl, _, _⟩ := hw
  rw [evalFn_go _ Tryz.func58 (by unfold Tryz.f58; rfl) (by unfold Tryz.f58; decide) (Nat.le_of_ble_eq_true (by unfold Tryz.f58; rfl)) (by kernel_rfl)]
  have hl := limbs_digs z.natAbs
  have hv := val_digs z.natAbs
  have hdl : ∀ k, (digs z.natAbs).length ≤ k ↔ z.natAbs < B ^ k := digs_len_le z.natAbs
  obtain ⟨l, hle⟩ : ∃ l, digs z.natAbs = l := ⟨_, rfl⟩
  rw [hle] at hl hv hdl
  by_cases h2 : (l.length : Int) > 2
  · have hb : ¬ z.natAbs < B ^ 2 := fun h => by have := (hdl 2).mpr h; omega
    have e : B ^ 2 = 18446744073709551616 := by decide
    rw [e] at hb
    have hi : isI64 z = false := by
      unfold isI64
      by_cases hz : z < 0
      · rw [decide_eq_false (show ¬ -9223372036854775808 ≤ z by omega)]; rfl
      · rw [decide_eq_false (show ¬ z < 9223372036854775808 by omega), Bool.and_false]
    rw [intZ, if_neg (by rw [hi]; decide)]
    simp only [simB, zbo, Nat.reduceBEq, own0, ↓reduceIte, Nat.reduceEqDiff, Nat.reduceAdd, env0, List.getElem?_cons_zero, List.getElem?_cons_succ, zdv, zdw, zdx, zdy, zdz, zea, zeb, zec, ia22, ld31, zed, zee, zef, zeg, zeh, zei, zej, zek, zel, zem, zen, zeo, zep, zeq, zer, fa_0, fa_1, zes, bd_0, bd_2, zet, fd_1, zeu, Nat.zero_add, st0_1, c1, hle, h2]
    exact finish_ib _ _ _ _ _ _ _ _ _ (by simp only [zfp, ↓reduceIte, Nat.reduceEqDiff]) (by simp only [zfp, ↓reduceIte, Nat.reduceEqDiff]) rfl
  have hx64 : z.natAbs < 18446744073709551616 := by rw [← hv]; exact len2_val l hl (by omega)
  simp only [simB, zbo, Nat.reduceBEq, own0, ↓reduceIte, Nat.reduceEqDiff, Nat.reduceAdd, env0, List.getElem?_cons_zero, List.getElem?_cons_succ, zdv, zdw, zdx, zdy, zdz, zea, zeb, zec, ia22, ld31, zed, zee, zef, zeg, zeh, zei, zej, zek, zel, zem, zen, zeo, zep, zeq, zer, fa_0, fa_1, zes, bd_0, bd_2, zet, fd_1, zeu, Nat.zero_add, st0_1, c1, hle, h2, den_loop]
  refine loop_ends (X := Nat) (fun i env s => env 1 = .ptr 1 1 0 ∧ s 1 = ⟨1, .buf [.bool (decide (z < 0)), encL g l]⟩ ∧ env 14 = encL g l ∧ env 15 = .int .i64 (l.length : Int) ∧ env 16 = .int .i64 (i : Int) ∧ env 4 = .int .u64 (val (l.take i) : Int) ∧ i ≤ l.length ∧ outsA s 0 [.tree (encA neg0 g0 l0)] = some [[]]) (fun i => l.length - i) (fun _ => (.tree (intZ z), [[]])) ?_ n 0 _ _ (by omega) ⟨rfl, rfl, rfl, rfl, rfl, rfl, Nat.zero_le _, rfl⟩
  intro k i hx ih env s ⟨e1, hs, e14, e15, e16, e4, hi, ho⟩
  by_cases hp : i = l.length
  · subst hp
    have q1 : ¬ ((l.length : Int) < (l.length : Int)) := by omega
    rw [List.take_length, hv] at e4
    by_cases hz : z < 0
    · by_cases hr : z.natAbs ≤ 9223372036854775808
      · have hr' : (z.natAbs : Int) ≤ 9223372036854775808 := by omega
        have u := un_neg64 z.natAbs (by omega)
        rw [Nat.mod_eq_of_lt (by omega)] at u
        have c2 := conv55_3 s (18446744073709551616 - z.natAbs) (by omega)
        rw [if_neg (by omega), show ((18446744073709551616 - z.natAbs : Nat) : Int) - 18446744073709551616 = z by omega] at c2
        have hi : isI64 z = true := by
          unfold isI64
          rw [decide_eq_true (show -9223372036854775808 ≤ z by omega), decide_eq_true (show z < 9223372036854775808 by omega)]; rfl
        rw [intZ, if_pos hi]
        simp only [simB, zbo, Nat.reduceBEq, own0, ↓reduceIte, Nat.reduceEqDiff, Nat.reduceAdd, zdv, zdw, zdx, zdy, zdz, zea, zeb, zec, ia22, ld31, zed, zee, zef, zeg, zeh, zei, zej, zek, zel, zem, zen, zeo, zep, zeq, zer, fa_0, fa_1, zes, bd_0, bd_2, zet, fd_1, zeu, Nat.zero_add, e1, hs, e14, e15, e16, e4, q1, hz, hr', u, c2]
        exact finish_ib _ _ _ _ _ _ _ _ _ (by simp only [zfp, ↓reduceIte, Nat.reduceEqDiff]) (by simp only [zfp, ↓reduceIte, Nat.reduceEqDiff]) ho
      · have hr' : ¬ (z.natAbs : Int) ≤ 9223372036854775808 := by omega
        have hi : isI64 z = false := by
          unfold isI64
          rw [decide_eq_false (show ¬ -9223372036854775808 ≤ z by omega)]; rfl
        rw [intZ, if_neg (by rw [hi]; decide)]
        simp only [simB, zbo, Nat.reduceBEq, own0, ↓reduceIte, Nat.reduceEqDiff, Nat.reduceAdd, zdv, zdw, zdx, zdy, zdz, zea, zeb, zec, ia22, ld31, zed, zee, zef, zeg, zeh, zei, zej, zek, zel, zem, zen, zeo, zep, zeq, zer, fa_0, fa_1, zes, bd_0, bd_2, zet, fd_1, zeu, Nat.zero_add, e1, hs, e14, e15, e16, e4, q1, hz, hr', unA_not', Bool.not_true, Bool.not_false]
        exact finish_ib _ _ _ _ _ _ _ _ _ (by simp only [zfp, ↓reduceIte, Nat.reduceEqDiff]) (by simp only [zfp, ↓reduceIte, Nat.reduceEqDiff]) ho
    · by_cases hr : z.natAbs < 9223372036854775808
      · have hr' : (z.natAbs : Int) < 9223372036854775808 := by omega
        have c2 := conv55_3 s z.natAbs (by omega)
        rw [if_pos hr, show ((z.natAbs : Nat) : Int) = z by omega] at c2
        have hi : isI64 z = true := by
          unfold isI64
          rw [decide_eq_true (show -9223372036854775808 ≤ z by omega), decide_eq_true (show z < 9223372036854775808 by omega)]; rfl
        rw [intZ, if_pos hi]
        rw [show ((z.natAbs : Nat) : Int) = z by omega] at e4 hr'
        simp only [simB, zbo, Nat.reduceBEq, own0, ↓reduceIte, Nat.reduceEqDiff, Nat.reduceAdd, zdv, zdw, zdx, zdy, zdz, zea, zeb, zec, ia22, ld31, zed, zee, zef, zeg, zeh, zei, zej, zek, zel, zem, zen, zeo, zep, zeq, zer, fa_0, fa_1, zes, bd_0, bd_2, zet, fd_1, zeu, Nat.zero_add, e1, hs, e14, e15, e16, e4, q1, hz, hr', c2, unA_not', Bool.not_true, Bool.not_false]
        exact finish_ib _ _ _ _ _ _ _ _ _ (by simp only [zfp, ↓reduceIte, Nat.reduceEqDiff]) (by simp only [zfp, ↓reduceIte, Nat.reduceEqDiff]) ho
      · have hr' : ¬ (z.natAbs : Int) < 9223372036854775808 := by omega
        have hi : isI64 z = false := by
          unfold isI64
          rw [decide_eq_false (show ¬ z < 9223372036854775808 by omega), Bool.and_false]
        rw [intZ, if_neg (by rw [hi]; decide)]
        simp only [simB, zbo, Nat.reduceBEq, own0, ↓reduceIte, Nat.reduceEqDiff, Nat.reduceAdd, zdv, zdw, zdx, zdy, zdz, zea, zeb, zec, ia22, ld31, zed, zee, zef, zeg, zeh, zei, zej, zek, zel, zem, zen, zeo, zep, zeq, zer, fa_0, fa_1, zes, bd_0, bd_2, zet, fd_1, zeu, Nat.zero_add, e1, hs, e14, e15, e16, e4, q1, hz, hr', unA_not', Bool.not_true, Bool.not_false]
        exact finish_ib _ _ _ _ _ _ _ _ _ (by simp only [zfp, ↓reduceIte, Nat.reduceEqDiff]) (by simp only [zfp, ↓reduceIte, Nat.reduceEqDiff]) ho
  · have q1 : (i : Int) < (l.length : Int) := by omega
    have q2 : (0 : Int) ≤ (i : Int) := by omega
    have q3 : i < l.length := by omega
    have hxi := getD_lt l hl i
    have hti := val_take_lt l hl i
    have hst := val_take_succ' l i
    have m1 := i_mul Tryz.prog 3 32 (i : Int) (by omega) (by omega)
    have hi1 : i = 0 ∨ i = 1 := by omega
    have m2 := u_shl Tryz.prog 96 (l.getD i 0) .i64 (32 * (i : Int)) (by omega) (by omega)
    rw [show (32 * (i : Int)).toNat = 32 * i by omega] at m2
    have hB : B ^ i = 2 ^ (32 * i) := B_pow i
    have hsm : l.getD i 0 * 2 ^ (32 * i) < 18446744073709551616 := by
      rcases hi1 with rfl | rfl
      · omega
      · have : (2 : Nat) ^ (32 * 1) = 4294967296 := by decide
        omega
    rw [Nat.mod_eq_of_lt hsm] at m2
    have hor := shl_or (l.getD i 0) (val (l.take i)) (32 * i) (by rw [← hB]; exact hti)
    have hnew : val (l.take i) + l.getD i 0 * 2 ^ (32 * i) = val (l.take (i + 1)) := by rw [hst, hB, Nat.mul_comm]
    have hb64 : val (l.take i) < 18446744073709551616 := len2_val _ (hl.take i) (by rw [List.length_take]; omega)
    have m3 := u_or Tryz.prog 96 (val (l.take i)) (l.getD i 0 * 2 ^ (32 * i)) hb64 hsm
    rw [hor, hnew] at m3
    have f4 := i_add Tryz.prog 3 (i : Int) 1 (by omega) (by omega)
    simp only [simB, zbo, Nat.reduceBEq, own0, ↓reduceIte, Nat.reduceEqDiff, Nat.reduceAdd, zdv, zdw, zdx, zdy, zdz, zea, zeb, zec, ia22, ld31, zed, zee, zef, zeg, zeh, zei, zej, zek, zel, zem, zen, zeo, zep, zeq, zer, fa_0, fa_1, zes, bd_0, bd_2, zet, fd_1, zeu, Nat.zero_add, e1, e14, e15, e16, e4, q1, q2, q3, Int.toNat_natCast, hxi, m1, m2, m3, f4]
    refine ih (i + 1) _ _ (by omega) rfl ⟨?_, hs, ?_, ?_, ?_, ?_, by omega, ho⟩
    · simp only [zfp, ↓reduceIte, Nat.reduceEqDiff, e1]
    · simp only [zfp, ↓reduceIte, Nat.reduceEqDiff, e14]
    · simp only [zfp, ↓reduceIte, Nat.reduceEqDiff, e15]
    · simp only [zfp, ↓reduceIte, Nat.reduceEqDiff]; rfl
    · simp only [zfp, ↓reduceIte, Nat.reduceEqDiff]
theorem cInt (n d : Nat) (hn : 100000 ≤ n) {w : AV} {z : Int} (hw : IsN w z) (D : Nat) (s : St) : callA cfg0 (evalFn Tryz.prog cfg0 n (d+3)) D s 58 [w] = some (intZ z, s) :=
  callA_trees (by simp [hw.tree]) (int_eq n d hn hw)
end Go.Ab

/- Shifts of numbers with signs: plain arithmetic. -/
namespace Go.Ab
/-- A number times two so often; below 0: by two, downwards. -/
def shZ (z k : Int) : Int := if 0 ≤ k then z * 2 ^ k.toNat else z.fdiv (2 ^ (-k).toNat)
theorem shZ_0 (k : Int) : shZ 0 k = 0 := by
  unfold shZ; split <;> simp
theorem shZ_down (z : Int) (N : Nat) : shZ z (-(N : Int)) = z.fdiv (2 ^ N) := by
  unfold shZ
  split
  · have : N = 0 := by omega
    subst this; simp
  · rw [Int.neg_neg, Int.toNat_natCast]
theorem shZ_up (z : Int) (N : Nat) : shZ z (N : Int) = z * 2 ^ N := by
  unfold shZ
  rw [if_pos (by omega), Int.toNat_natCast]
theorem fdiv_neg_pow (x : Nat) (hx : 0 < x) (N : Nat) : (-(x : Int)).fdiv (2 ^ N) = -(((x - 1) / 2 ^ N + 1 : Nat) : Int) := by
  obtain ⟨y, rfl⟩ : ∃ y, x = y + 1 := ⟨x - 1, by omega⟩
  have e : ((2 : Int) ^ N) = ((2 ^ N : Nat) : Int) := by simp
  have hp : 0 < 2 ^ N := Nat.two_pow_pos N
  rw [e, Int.fdiv_eq_ediv_of_nonneg _ (by omega)]
  generalize 2 ^ N = p at *
  rw [Nat.add_sub_cancel]
  have h := Nat.div_add_mod y p
  have hm := Nat.mod_lt y hp
  generalize y / p = q at *
  generalize y % p = r at *
  subst h
  have e1 : -((p * q + r + 1 : Nat) : Int) = -((q : Int) + 1) * (p : Int) + ((p : Int) - 1 - r) := by
    push_cast
    rw [Int.neg_mul, Int.add_mul, Int.one_mul, Int.mul_comm (p : Int)]
    omega
  rw [e1, Int.add_comm, Int.add_mul_ediv_right _ _ (by omega), Int.ediv_eq_zero_of_lt (by omega) (by omega)]
  omega
theorem fdiv_pos_pow (x : Nat) (N : Nat) : (x : Int).fdiv (2 ^ N) = ((x / 2 ^ N : Nat) : Int) := by
  have e : ((2 : Int) ^ N) = ((2 ^ N : Nat) : Int) := by simp
  rw [e, Int.fdiv_eq_ediv_of_nonneg _ (Int.natCast_nonneg _)]; rfl
theorem down_neg (z : Int) (N : Nat) (h : z < 0) : sgn true ((z.natAbs - 1) / 2 ^ N + 1) = shZ z (-(N : Int)) := by
  rw [shZ_down]
  have h1 : z = -(z.natAbs : Int) := by omega
  generalize hx : z.natAbs = x at *
  subst h1
  rw [fdiv_neg_pow x (by omega)]; rfl
theorem down_pos (z : Int) (N : Nat) (h : ¬ z < 0) : sgn false (z.natAbs / 2 ^ N) = shZ z (-(N : Int)) := by
  rw [shZ_down]
  have h1 : z = (z.natAbs : Int) := by omega
  generalize hx : z.natAbs = x at *
  subst h1
  rw [fdiv_pos_pow]; rfl
theorem up_sgn (z : Int) (N : Nat) : sgn (decide (z < 0)) (z.natAbs * 2 ^ N) = shZ z (N : Int) := by
  rw [shZ_up]
  have e : ((2 : Int) ^ N) = ((2 ^ N : Nat) : Int) := by simp
  rw [e]
  generalize 2 ^ N = p
  unfold sgn
  by_cases h : z < 0
  · rw [decide_eq_true h, if_pos rfl]
    have h1 : z = -(z.natAbs : Int) := by omega
    generalize z.natAbs = x at *
    subst h1
    rw [Int.neg_mul]; simp
  · rw [decide_eq_false h, if_neg (by decide)]
    have h1 : z = (z.natAbs : Int) := by omega
    generalize z.natAbs = x at *
    subst h1
    simp
theorem B_le (k N : Nat) (h : 32 * k ≤ N) : B ^ k ≤ 2 ^ N := by rw [B_pow]; exact Nat.pow_le_pow_right (by decide) h
theorem le_B (k N : Nat) (h : N ≤ 32 * k) : 2 ^ N ≤ B ^ k := by rw [B_pow]; exact Nat.pow_le_pow_right (by decide) h
theorem lt_B (k N : Nat) (h : N < 32 * k) : 2 ^ N < B ^ k := by rw [B_pow]; exact Nat.pow_lt_pow_right (by decide) h
theorem far_down0 (z : Int) (N : Nat) (h : z.natAbs < B ^ 12) (hN : 10000 < N) : shZ z (-(N : Int)) = if z < 0 then -1 else 0 := by
  have hp : B ^ 12 ≤ 2 ^ N := B_le 12 N (by omega)
  by_cases hz : z < 0
  · rw [if_pos hz, ← down_neg z N hz, Nat.div_eq_of_lt (by omega)]; rfl
  · rw [if_neg hz, ← down_pos z N hz, Nat.div_eq_of_lt (by omega)]; rfl
theorem far_up0 (z : Int) (N : Nat) (h0 : z ≠ 0) (hN : 384 < N) : ¬ (shZ z (N : Int)).natAbs < B ^ 12 := by
  have hp : B ^ 12 ≤ 2 ^ N := B_le 12 N (by omega)
  rw [← up_sgn, sgn_abs]
  have : 1 * 2 ^ N ≤ z.natAbs * 2 ^ N := Nat.mul_le_mul_right _ (by omega)
  omega
end Go.Ab

/- Shifts of numbers. Conditions: numbers that are shown. -/
namespace Go.Ab
open Go.Proofs
set_option maxRecDepth 100000
set_option linter.unusedSimpArgs false

theorem intZ_no {z : Int} (h : isI64 z = false) : intZ z = .tup [.int .i64 0, .bool false] := by rw [intZ, if_neg (by rw [h]; decide)]
theorem intZ_is {z : Int} (h : isI64 z = true) : intZ z = .tup [.int .i64 z, .bool true] := by rw [intZ, if_pos h]
theorem isI64_iff (z : Int) : isI64 z = true ↔ -9223372036854775808 ≤ z ∧ z < 9223372036854775808 := by
  unfold isI64; simp
theorem un_negi (x : Int) (h : -9223372036854775807 ≤ x) (h' : x ≤ 9223372036854775807) : unA .neg (.int .i64 x) = some (.int .i64 (-x)) := by
  have := i64_wrap (0 - x) (by omega) (by omega)
  simp only [unA, this]
  congr 2; omega
theorem max_abs (x : Int) : foldA max2A (.int .i64 x) [.int .i64 (-x)] = some (.int .i64 (x.natAbs : Int)) := by
  simp only [foldA, max2A, Option.bind_some]
  congr 2
  split <;> omega
theorem cAddOne (n d : Nat) (hn : 100000 ≤ n) (D : Nat) (s : St) (v : Nat) (h : v < B ^ 12) : callA cfg0 (evalFn Tryz.prog cfg0 n (d+2)) D s 101 [encR v, .sl [.int .u32 1] 1 .tight] = some (encR (v + 1), s) :=
  cAdd n d hn D s (num_R v 12 (by decide) h) (num_one 1 (by decide))
theorem cSubOne (n d : Nat) (hn : 100000 ≤ n) (D : Nat) (s : St) (g : Gk) (z : Int) (h : z.natAbs < B ^ 12) : callA cfg0 (evalFn Tryz.prog cfg0 n (d+4)) D s 102 [encL g (digs z.natAbs), .sl [.int .u32 1] 1 .tight] = some (encR (z.natAbs - 1), s) :=
  cSub n d hn D s (num_can g z h) (num_one 1 (by decide))
theorem lessK (z' : Int) (back : Bool) : (if back = true then -z' else z') = if (!(decide (z' < 0) == back)) = true then -(z'.natAbs : Int) else (z'.natAbs : Int) := by
  cases back <;> by_cases h : z' < 0 <;> simp [h] <;> omega
theorem far_down (z k : Int) (h : z.natAbs < B ^ 12) (hk : k < -10000) : madeV (shZ z k) = .tup [encZ (if z < 0 then -1 else 0), .bool true] := by
  obtain ⟨N, rfl⟩ : ∃ N : Nat, k = -(N : Int) := ⟨k.natAbs, by omega⟩
  rw [far_down0 z N h (by omega)]
  refine madeV_fit ?_
  have : 1 < B ^ 12 := Nat.one_lt_pow (by decide) (by decide)
  split
  · exact this
  · exact Nat.lt_of_succ_lt this
theorem far_up (z k : Int) (h0 : z ≠ 0) (_h : z.natAbs < B ^ 12) (hk : 384 < k) : madeV (shZ z k) = .tup [encZ 0, .bool false] := by
  obtain ⟨N, rfl⟩ : ∃ N : Nat, k = (N : Int) := ⟨k.toNat, by omega⟩
  rw [madeV, mkZ_not (far_up0 z N h0 (by omega))]
/-- Behind an operation: of the temporaries and the store only what is told. -/
theorem forgetS {P : Program} {cfg : Cfg} {call : FuncId → List Arg → Option Out} {q : Bool} {all : Array Oper} {d : Option Tmp} {r : List Oper} {K : Kont} {env : Env} {s : St} {out : Option Out} (f : St → Option (AV × St)) (I : Env → St → Prop) (hI : I env s) (h : ∀ env s, I env s → opK P cfg call q all d r K env (f s) = out) :
    opK P cfg call q all d r K env (f s) = out := h env s hI
set_option maxHeartbeats 8000000 in
theorem shift_near (n d : Nat) (hn : 100000 ≤ n) (g g' : Gk) (z z' : Int) (hlt : z.natAbs < B ^ 12) (hlt' : z'.natAbs < B ^ 12) (back : Bool) (h0 : z ≠ 0) (hN : z'.natAbs ≤ 10000) : evalFn Tryz.prog cfg0 n (d+5) 78 [.tree (canA g z), .tree (canA g' z'), .tree (.bool back)] = some (.tree (madeV (shZ z (if back = true then -z' else z'))), [[], [], []]) := by
  rw [evalFn_go _ Tryz.func78 (by unfold Tryz.f78; rfl) (by unfold Tryz.f78; decide) (Nat.le_of_ble_eq_true (by unfold Tryz.f78; rfl)) (by kernel_rfl)]
  rw [lessK]
  have c1 := fun D s => cInt n (d + 1) hn (isN_can g' z' hlt') D s
  rw [intZ_is ((isI64_iff z').mpr ⟨by omega, by omega⟩)] at c1
  have en := bool_neq 4 tk4
  generalize hlb : (!(decide (z' < 0) == back)) = lb
  have p0 : (((digs z.natAbs).length : Int) == 0) = false := by
    rw [beq_eq_false_iff_ne]
    intro h
    have := (digs_len0 z.natAbs).mp (by omega)
    omega
  have hbig : ¬ z' > 10000 := by omega
  have hsm : ¬ z' < -10000 := by omega
  have u := un_negi z' (by omega) (by omega)
  have m1 := max_abs z'
  cases lb with
  | true =>
    simp only [if_true]
    simp only [simB, zbo, Nat.reduceBEq, own0, ↓reduceIte, Nat.reduceEqDiff, Nat.reduceAdd, env0, List.getElem?_cons_zero, List.getElem?_cons_succ, zdv, zdw, zdx, zdy, zdz, zea, zeb, zec, ia22, ld31, zed, zee, zef, zeg, zeh, zei, zej, zek, zel, zem, zen, zeo, zep, zeq, zer, fa_0, fa_1, zes, bd_0, bd_2, zet, fd_1, zeu, Nat.zero_add, st0_3', c1, en, hlb, ext_0, ext_1, p0, unA_not', Bool.not_true, Bool.not_false, hbig, hsm]
    refine forgetS (fun s => (unA .neg (.int .i64 z')).map (·, s)) (fun env s => env 3 = .ptr 3 1 0 ∧ env 6 = .ptr 6 1 0 ∧ env 8 = .int .i64 z' ∧ env 10 = .bool true ∧ env 56 = .int .i64 z' ∧ s 3 = ⟨1, .buf [.bool (decide (z < 0)), encL g (digs z.natAbs)]⟩ ∧ ∃ x y, s 6 = ⟨1, .buf [x, y]⟩) ⟨by simp only [zfp, ↓reduceIte, Nat.reduceEqDiff], by simp only [zfp, ↓reduceIte, Nat.reduceEqDiff], by simp only [zfp, ↓reduceIte, Nat.reduceEqDiff], by simp only [zfp, ↓reduceIte, Nat.reduceEqDiff], by simp only [zfp, ↓reduceIte, Nat.reduceEqDiff], by simp only [zfp, ↓reduceIte, Nat.reduceEqDiff], .bool false, .sl [] 0 .nil, by simp only [zfp, ↓reduceIte, Nat.reduceEqDiff]⟩ ?_
    intro env s ⟨e3, e6, e8, e10, e56, s3, x, y, s6⟩
    have c3 := fun D s => cShr n (d + 2) hn D s (num_can g z hlt) (z'.natAbs : Int) (by omega)
    rw [Int.toNat_natCast] at c3
    by_cases ha : z < 0
    · have c4 := fun D s => cSubOne n d hn D s g z hlt
      have c5 := fun D s => cShr n (d + 2) hn D s (num_R (z.natAbs - 1) 12 (by decide) (by omega)) (z'.natAbs : Int) (by omega)
      rw [Int.toNat_natCast] at c5
      have hq : (z.natAbs - 1) / 2 ^ z'.natAbs < B ^ 12 := Nat.lt_of_le_of_lt (Nat.div_le_self _ _) (by omega)
      have c6 := fun D s => cAddOne n (d + 2) hn D s ((z.natAbs - 1) / 2 ^ z'.natAbs) hq
      have c7 := fun D s => cMade n (d + 2) hn D s (num_R ((z.natAbs - 1) / 2 ^ z'.natAbs + 1) 13 (by decide) (lt13 hq (Nat.one_lt_pow (by decide) (by decide)))) true
      rw [down_neg z z'.natAbs ha] at c7
      simp only [simB, zbo, Nat.reduceBEq, own0, ↓reduceIte, Nat.reduceEqDiff, Nat.reduceAdd, env0, List.getElem?_cons_zero, List.getElem?_cons_succ, zdv, zdw, zdx, zdy, zdz, zea, zeb, zec, ia22, ld31, zed, zee, zef, zeg, zeh, zei, zej, zek, zel, zem, zen, zeo, zep, zeq, zer, fa_0, fa_1, zes, bd_0, bd_2, zet, fd_1, zeu, Nat.zero_add, e3, e6, e8, e10, e56, s3, s6, ext_0, ext_1, unA_not', Bool.not_true, Bool.not_false, u, m1, ha, opA_one, one22_int, c4, c5, c6, c7, madeV_eq, st_Z]
      exact finish_ct _ _ 6 6 1 _ _ _ _ _ _ _ (by simp only [zfp, ↓reduceIte, Nat.reduceEqDiff, e6]) (by simp only [zfp, ↓reduceIte, Nat.reduceEqDiff]) (by simp only [zfp, ↓reduceIte, Nat.reduceEqDiff]) rfl
    · have c7 := fun D s => cMade n (d + 2) hn D s (num_R (z.natAbs / 2 ^ z'.natAbs) 12 (by decide) (Nat.lt_of_le_of_lt (Nat.div_le_self _ _) hlt)) false
      rw [down_pos z z'.natAbs ha] at c7
      simp only [simB, zbo, Nat.reduceBEq, own0, ↓reduceIte, Nat.reduceEqDiff, Nat.reduceAdd, env0, List.getElem?_cons_zero, List.getElem?_cons_succ, zdv, zdw, zdx, zdy, zdz, zea, zeb, zec, ia22, ld31, zed, zee, zef, zeg, zeh, zei, zej, zek, zel, zem, zen, zeo, zep, zeq, zer, fa_0, fa_1, zes, bd_0, bd_2, zet, fd_1, zeu, Nat.zero_add, e3, e6, e8, e10, e56, s3, s6, ext_0, ext_1, unA_not', Bool.not_true, Bool.not_false, u, m1, ha, c3, c7, madeV_eq, st_Z]
      exact finish_ct _ _ 6 6 1 _ _ _ _ _ _ _ (by simp only [zfp, ↓reduceIte, Nat.reduceEqDiff, e6]) (by simp only [zfp, ↓reduceIte, Nat.reduceEqDiff]) (by simp only [zfp, ↓reduceIte, Nat.reduceEqDiff]) rfl
  | false =>
    simp only [Bool.false_eq_true, if_false]
    simp only [simB, zbo, Nat.reduceBEq, own0, ↓reduceIte, Nat.reduceEqDiff, Nat.reduceAdd, env0, List.getElem?_cons_zero, List.getElem?_cons_succ, zdv, zdw, zdx, zdy, zdz, zea, zeb, zec, ia22, ld31, zed, zee, zef, zeg, zeh, zei, zej, zek, zel, zem, zen, zeo, zep, zeq, zer, fa_0, fa_1, zes, bd_0, bd_2, zet, fd_1, zeu, Nat.zero_add, st0_3', c1, en, hlb, ext_0, ext_1, p0, unA_not', Bool.not_true, Bool.not_false, hbig, hsm]
    refine forgetS (fun s => (unA .neg (.int .i64 z')).map (·, s)) (fun env s => env 3 = .ptr 3 1 0 ∧ env 6 = .ptr 6 1 0 ∧ env 8 = .int .i64 z' ∧ env 10 = .bool false ∧ env 56 = .int .i64 z' ∧ s 3 = ⟨1, .buf [.bool (decide (z < 0)), encL g (digs z.natAbs)]⟩ ∧ ∃ x y, s 6 = ⟨1, .buf [x, y]⟩) ⟨by simp only [zfp, ↓reduceIte, Nat.reduceEqDiff], by simp only [zfp, ↓reduceIte, Nat.reduceEqDiff], by simp only [zfp, ↓reduceIte, Nat.reduceEqDiff], by simp only [zfp, ↓reduceIte, Nat.reduceEqDiff], by simp only [zfp, ↓reduceIte, Nat.reduceEqDiff], by simp only [zfp, ↓reduceIte, Nat.reduceEqDiff], .bool false, .sl [] 0 .nil, by simp only [zfp, ↓reduceIte, Nat.reduceEqDiff]⟩ ?_
    intro env s ⟨e3, e6, e8, e10, e56, s3, x, y, s6⟩
    by_cases hf : (z'.natAbs : Int) > 384
    · rw [far_up z (z'.natAbs : Int) h0 hlt (by omega), encZ_0]
      simp only [simB, zbo, Nat.reduceBEq, own0, ↓reduceIte, Nat.reduceEqDiff, Nat.reduceAdd, env0, List.getElem?_cons_zero, List.getElem?_cons_succ, zdv, zdw, zdx, zdy, zdz, zea, zeb, zec, ia22, ld31, zed, zee, zef, zeg, zeh, zei, zej, zek, zel, zem, zen, zeo, zep, zeq, zer, fa_0, fa_1, zes, bd_0, bd_2, zet, fd_1, zeu, Nat.zero_add, e3, e6, e8, e10, e56, s3, s6, ext_0, ext_1, unA_not', Bool.not_true, Bool.not_false, u, m1, hf]
      exact finish_ct _ _ 6 6 1 _ _ _ _ _ _ _ (by simp only [zfp, ↓reduceIte, Nat.reduceEqDiff, e6]) (by simp only [zfp, ↓reduceIte, Nat.reduceEqDiff]) (by simp only [zfp, ↓reduceIte, Nat.reduceEqDiff]) rfl
    · have c3 := qShl n (d + 2) hn (num_can g z hlt) (tree_L _ _) (z'.natAbs : Int)
      have hs : shn (z'.natAbs : Int) = z'.natAbs := by
        unfold shn
        rw [if_neg (by omega)]
        exact Int.toNat_natCast _
      rw [hs] at c3
      have hp : z.natAbs * 2 ^ z'.natAbs < B ^ 25 := by
        have h2 : 2 ^ z'.natAbs ≤ B ^ 13 := le_B 13 _ (by omega)
        rw [show (25 : Nat) = 12 + 13 from rfl, Nat.pow_add]
        exact Nat.mul_lt_mul_of_lt_of_le hlt h2 (Nat.pow_pos (by decide))
      have c4 := qMade n (d + 2) hn (num_R (z.natAbs * 2 ^ z'.natAbs) 25 (by decide) hp) (tree_R _) (decide (z < 0))
      rw [up_sgn z z'.natAbs] at c4
      simp only [simB, zbo, Nat.reduceBEq, own0, ↓reduceIte, Nat.reduceEqDiff, Nat.reduceAdd, env0, List.getElem?_cons_zero, List.getElem?_cons_succ, zdv, zdw, zdx, zdy, zdz, zea, zeb, zec, ia22, ld31, zed, zee, zef, zeg, zeh, zei, zej, zek, zel, zem, zen, zeo, zep, zeq, zer, fa_0, fa_1, zes, bd_0, bd_2, zet, fd_1, zeu, Nat.zero_add, e3, e6, e8, e10, e56, s3, s6, ext_0, ext_1, unA_not', Bool.not_true, Bool.not_false, u, m1, hf, c3, c4, madeV_eq, st_Z]
      exact finish_ct _ _ 6 6 1 _ _ _ _ _ _ _ (by simp only [zfp, ↓reduceIte, Nat.reduceEqDiff, e6]) (by simp only [zfp, ↓reduceIte, Nat.reduceEqDiff]) (by simp only [zfp, ↓reduceIte, Nat.reduceEqDiff]) rfl
end Go.Ab

/- Shifts of numbers, however far. Conditions: numbers that are shown. -/
namespace Go.Ab
open Go.Proofs
set_option maxRecDepth 100000
set_option linter.unusedSimpArgs false

set_option maxHeartbeats 8000000 in
theorem shift_eq (n d : Nat) (hn : 100000 ≤ n) (g g' : Gk) (z z' : Int) (hlt : z.natAbs < B ^ 12) (hlt' : z'.natAbs < B ^ 12) (back : Bool) : evalFn Tryz.prog cfg0 n (d+5) 78 [.tree (canA g z), .tree (canA g' z'), .tree (.bool back)] = some (.tree (madeV (shZ z (if back = true then -z' else z'))), [[], [], []]) := by
  by_cases hnear : z ≠ 0 ∧ z'.natAbs ≤ 10000
  · exact shift_near n d hn g g' z z' hlt hlt' back hnear.1 hnear.2
  rw [evalFn_go _ Tryz.func78 (by unfold Tryz.f78; rfl) (by unfold Tryz.f78; decide) (Nat.le_of_ble_eq_true (by unfold Tryz.f78; rfl)) (by kernel_rfl)]
  rw [lessK]
  have c1 := fun D s => cInt n (d + 1) hn (isN_can g' z' hlt') D s
  have en := bool_neq 4 tk4
  generalize hlb : (!(decide (z' < 0) == back)) = lb
  by_cases h0 : z = 0
  · have p0 : (((digs z.natAbs).length : Int) == 0) = true := by rw [h0]; simp [digs_0]
    have hm : madeV (shZ z (if lb = true then -(z'.natAbs : Int) else (z'.natAbs : Int))) = .tup [encZ 0, .bool true] := by rw [h0, shZ_0, madeV_fit (Nat.pow_pos (by decide))]
    rw [hm, encZ_0]
    cases hi : isI64 z' with
    | false =>
      rw [intZ_no hi] at c1
      simp only [simB, zbo, Nat.reduceBEq, own0, ↓reduceIte, Nat.reduceEqDiff, Nat.reduceAdd, env0, List.getElem?_cons_zero, List.getElem?_cons_succ, zdv, zdw, zdx, zdy, zdz, zea, zeb, zec, ia22, ld31, zed, zee, zef, zeg, zeh, zei, zej, zek, zel, zem, zen, zeo, zep, zeq, zer, fa_0, fa_1, zes, bd_0, bd_2, zet, fd_1, zeu, Nat.zero_add, st0_3', c1, en, hlb, ext_0, ext_1, p0]
      exact finish_ct _ _ 6 6 1 _ _ _ _ _ _ _ (by simp only [zfp, ↓reduceIte, Nat.reduceEqDiff]) (by simp only [zfp, ↓reduceIte, Nat.reduceEqDiff]) (by simp only [zfp, ↓reduceIte, Nat.reduceEqDiff]) rfl
    | true =>
      rw [intZ_is hi] at c1
      simp only [simB, zbo, Nat.reduceBEq, own0, ↓reduceIte, Nat.reduceEqDiff, Nat.reduceAdd, env0, List.getElem?_cons_zero, List.getElem?_cons_succ, zdv, zdw, zdx, zdy, zdz, zea, zeb, zec, ia22, ld31, zed, zee, zef, zeg, zeh, zei, zej, zek, zel, zem, zen, zeo, zep, zeq, zer, fa_0, fa_1, zes, bd_0, bd_2, zet, fd_1, zeu, Nat.zero_add, st0_3', c1, en, hlb, ext_0, ext_1, p0]
      exact finish_ct _ _ 6 6 1 _ _ _ _ _ _ _ (by simp only [zfp, ↓reduceIte, Nat.reduceEqDiff]) (by simp only [zfp, ↓reduceIte, Nat.reduceEqDiff]) (by simp only [zfp, ↓reduceIte, Nat.reduceEqDiff]) rfl
  have p0 : (((digs z.natAbs).length : Int) == 0) = false := by
    rw [beq_eq_false_iff_ne]
    intro h
    have := (digs_len0 z.natAbs).mp (by omega)
    omega
  have cm1 := fun D s => cOf64 n (d + 1) hn (-1) (by decide) (by decide) D s
  have hnab : ∀ x : Int, x.natAbs ≤ 10000 ↔ -10000 ≤ x ∧ x ≤ 10000 := fun x => by omega
  cases hi : isI64 z' with
  | false =>
    rw [intZ_no hi] at c1
    have hni : ¬ (-9223372036854775808 ≤ z' ∧ z' < 9223372036854775808) := fun h => by
      have := (isI64_iff z').mpr h; rw [hi] at this; cases this
    have hN : 10000 < z'.natAbs := by omega
    cases lb with
    | true =>
      have hm := far_down z (-(z'.natAbs : Int)) hlt (by omega)
      simp only [if_true]
      rw [hm]
      by_cases ha : z < 0
      · rw [if_pos ha]
        simp only [simB, zbo, Nat.reduceBEq, own0, ↓reduceIte, Nat.reduceEqDiff, Nat.reduceAdd, env0, List.getElem?_cons_zero, List.getElem?_cons_succ, zdv, zdw, zdx, zdy, zdz, zea, zeb, zec, ia22, ld31, zed, zee, zef, zeg, zeh, zei, zej, zek, zel, zem, zen, zeo, zep, zeq, zer, fa_0, fa_1, zes, bd_0, bd_2, zet, fd_1, zeu, Nat.zero_add, st0_3', c1, en, hlb, ext_0, ext_1, p0, unA_not', Bool.not_true, Bool.not_false, ha, cm1, st_Z, Bool.false_eq_true]
        exact finish_ct _ _ 6 6 1 _ _ _ _ _ _ _ (by simp only [zfp, ↓reduceIte, Nat.reduceEqDiff]) (by simp only [zfp, ↓reduceIte, Nat.reduceEqDiff]) (by simp only [zfp, ↓reduceIte, Nat.reduceEqDiff]) rfl
      · rw [if_neg ha, encZ_0]
        simp only [simB, zbo, Nat.reduceBEq, own0, ↓reduceIte, Nat.reduceEqDiff, Nat.reduceAdd, env0, List.getElem?_cons_zero, List.getElem?_cons_succ, zdv, zdw, zdx, zdy, zdz, zea, zeb, zec, ia22, ld31, zed, zee, zef, zeg, zeh, zei, zej, zek, zel, zem, zen, zeo, zep, zeq, zer, fa_0, fa_1, zes, bd_0, bd_2, zet, fd_1, zeu, Nat.zero_add, st0_3', c1, en, hlb, ext_0, ext_1, p0, unA_not', Bool.not_true, Bool.not_false, ha, Bool.false_eq_true]
        exact finish_ct _ _ 6 6 1 _ _ _ _ _ _ _ (by simp only [zfp, ↓reduceIte, Nat.reduceEqDiff]) (by simp only [zfp, ↓reduceIte, Nat.reduceEqDiff]) (by simp only [zfp, ↓reduceIte, Nat.reduceEqDiff]) rfl
    | false =>
      have hm := far_up z (z'.natAbs : Int) h0 hlt (by omega)
      simp only [Bool.false_eq_true, if_false]
      rw [hm, encZ_0]
      simp only [simB, zbo, Nat.reduceBEq, own0, ↓reduceIte, Nat.reduceEqDiff, Nat.reduceAdd, env0, List.getElem?_cons_zero, List.getElem?_cons_succ, zdv, zdw, zdx, zdy, zdz, zea, zeb, zec, ia22, ld31, zed, zee, zef, zeg, zeh, zei, zej, zek, zel, zem, zen, zeo, zep, zeq, zer, fa_0, fa_1, zes, bd_0, bd_2, zet, fd_1, zeu, Nat.zero_add, st0_3', c1, en, hlb, ext_0, ext_1, p0, unA_not', Bool.not_true, Bool.not_false, Bool.false_eq_true]
      exact finish_ct _ _ 6 6 1 _ _ _ _ _ _ _ (by simp only [zfp, ↓reduceIte, Nat.reduceEqDiff]) (by simp only [zfp, ↓reduceIte, Nat.reduceEqDiff]) (by simp only [zfp, ↓reduceIte, Nat.reduceEqDiff]) rfl
  | true =>
    rw [intZ_is hi] at c1
    have hii := (isI64_iff z').mp hi
    by_cases hbig : z' > 10000
    · have hX : True := trivial
      have hN : 10000 < z'.natAbs := by omega
      cases lb with
      | true =>
        have hm := far_down z (-(z'.natAbs : Int)) hlt (by omega)
        simp only [if_true]
        rw [hm]
        by_cases ha : z < 0
        · rw [if_pos ha]
          simp only [simB, zbo, Nat.reduceBEq, own0, ↓reduceIte, Nat.reduceEqDiff, Nat.reduceAdd, env0, List.getElem?_cons_zero, List.getElem?_cons_succ, zdv, zdw, zdx, zdy, zdz, zea, zeb, zec, ia22, ld31, zed, zee, zef, zeg, zeh, zei, zej, zek, zel, zem, zen, zeo, zep, zeq, zer, fa_0, fa_1, zes, bd_0, bd_2, zet, fd_1, zeu, Nat.zero_add, st0_3', c1, en, hlb, ext_0, ext_1, p0, unA_not', Bool.not_true, Bool.not_false, ha, cm1, st_Z, hbig]
          exact finish_ct _ _ 6 6 1 _ _ _ _ _ _ _ (by simp only [zfp, ↓reduceIte, Nat.reduceEqDiff]) (by simp only [zfp, ↓reduceIte, Nat.reduceEqDiff]) (by simp only [zfp, ↓reduceIte, Nat.reduceEqDiff]) rfl
        · rw [if_neg ha, encZ_0]
          simp only [simB, zbo, Nat.reduceBEq, own0, ↓reduceIte, Nat.reduceEqDiff, Nat.reduceAdd, env0, List.getElem?_cons_zero, List.getElem?_cons_succ, zdv, zdw, zdx, zdy, zdz, zea, zeb, zec, ia22, ld31, zed, zee, zef, zeg, zeh, zei, zej, zek, zel, zem, zen, zeo, zep, zeq, zer, fa_0, fa_1, zes, bd_0, bd_2, zet, fd_1, zeu, Nat.zero_add, st0_3', c1, en, hlb, ext_0, ext_1, p0, unA_not', Bool.not_true, Bool.not_false, ha, hbig]
          exact finish_ct _ _ 6 6 1 _ _ _ _ _ _ _ (by simp only [zfp, ↓reduceIte, Nat.reduceEqDiff]) (by simp only [zfp, ↓reduceIte, Nat.reduceEqDiff]) (by simp only [zfp, ↓reduceIte, Nat.reduceEqDiff]) rfl
      | false =>
        have hm := far_up z (z'.natAbs : Int) h0 hlt (by omega)
        simp only [Bool.false_eq_true, if_false]
        rw [hm, encZ_0]
        simp only [simB, zbo, Nat.reduceBEq, own0, ↓reduceIte, Nat.reduceEqDiff, Nat.reduceAdd, env0, List.getElem?_cons_zero, List.getElem?_cons_succ, zdv, zdw, zdx, zdy, zdz, zea, zeb, zec, ia22, ld31, zed, zee, zef, zeg, zeh, zei, zej, zek, zel, zem, zen, zeo, zep, zeq, zer, fa_0, fa_1, zes, bd_0, bd_2, zet, fd_1, zeu, Nat.zero_add, st0_3', c1, en, hlb, ext_0, ext_1, p0, unA_not', Bool.not_true, Bool.not_false, hbig]
        exact finish_ct _ _ 6 6 1 _ _ _ _ _ _ _ (by simp only [zfp, ↓reduceIte, Nat.reduceEqDiff]) (by simp only [zfp, ↓reduceIte, Nat.reduceEqDiff]) (by simp only [zfp, ↓reduceIte, Nat.reduceEqDiff]) rfl
    by_cases hsm : z' < -10000
    · have hX : True := trivial
      have hN : 10000 < z'.natAbs := by omega
      cases lb with
      | true =>
        have hm := far_down z (-(z'.natAbs : Int)) hlt (by omega)
        simp only [if_true]
        rw [hm]
        by_cases ha : z < 0
        · rw [if_pos ha]
          simp only [simB, zbo, Nat.reduceBEq, own0, ↓reduceIte, Nat.reduceEqDiff, Nat.reduceAdd, env0, List.getElem?_cons_zero, List.getElem?_cons_succ, zdv, zdw, zdx, zdy, zdz, zea, zeb, zec, ia22, ld31, zed, zee, zef, zeg, zeh, zei, zej, zek, zel, zem, zen, zeo, zep, zeq, zer, fa_0, fa_1, zes, bd_0, bd_2, zet, fd_1, zeu, Nat.zero_add, st0_3', c1, en, hlb, ext_0, ext_1, p0, unA_not', Bool.not_true, Bool.not_false, ha, cm1, st_Z, hbig, hsm]
          exact finish_ct _ _ 6 6 1 _ _ _ _ _ _ _ (by simp only [zfp, ↓reduceIte, Nat.reduceEqDiff]) (by simp only [zfp, ↓reduceIte, Nat.reduceEqDiff]) (by simp only [zfp, ↓reduceIte, Nat.reduceEqDiff]) rfl
        · rw [if_neg ha, encZ_0]
          simp only [simB, zbo, Nat.reduceBEq, own0, ↓reduceIte, Nat.reduceEqDiff, Nat.reduceAdd, env0, List.getElem?_cons_zero, List.getElem?_cons_succ, zdv, zdw, zdx, zdy, zdz, zea, zeb, zec, ia22, ld31, zed, zee, zef, zeg, zeh, zei, zej, zek, zel, zem, zen, zeo, zep, zeq, zer, fa_0, fa_1, zes, bd_0, bd_2, zet, fd_1, zeu, Nat.zero_add, st0_3', c1, en, hlb, ext_0, ext_1, p0, unA_not', Bool.not_true, Bool.not_false, ha, hbig, hsm]
          exact finish_ct _ _ 6 6 1 _ _ _ _ _ _ _ (by simp only [zfp, ↓reduceIte, Nat.reduceEqDiff]) (by simp only [zfp, ↓reduceIte, Nat.reduceEqDiff]) (by simp only [zfp, ↓reduceIte, Nat.reduceEqDiff]) rfl
      | false =>
        have hm := far_up z (z'.natAbs : Int) h0 hlt (by omega)
        simp only [Bool.false_eq_true, if_false]
        rw [hm, encZ_0]
        simp only [simB, zbo, Nat.reduceBEq, own0, ↓reduceIte, Nat.reduceEqDiff, Nat.reduceAdd, env0, List.getElem?_cons_zero, List.getElem?_cons_succ, zdv, zdw, zdx, zdy, zdz, zea, zeb, zec, ia22, ld31, zed, zee, zef, zeg, zeh, zei, zej, zek, zel, zem, zen, zeo, zep, zeq, zer, fa_0, fa_1, zes, bd_0, bd_2, zet, fd_1, zeu, Nat.zero_add, st0_3', c1, en, hlb, ext_0, ext_1, p0, unA_not', Bool.not_true, Bool.not_false, hbig, hsm]
        exact finish_ct _ _ 6 6 1 _ _ _ _ _ _ _ (by simp only [zfp, ↓reduceIte, Nat.reduceEqDiff]) (by simp only [zfp, ↓reduceIte, Nat.reduceEqDiff]) (by simp only [zfp, ↓reduceIte, Nat.reduceEqDiff]) rfl
    exact absurd ⟨h0, by omega⟩ hnear
end Go.Ab

/- What the number statements ask besides. Conditions: limbs in range. -/
namespace Go.Ab
open Go.Proofs
set_option maxRecDepth 100000
set_option linter.unusedSimpArgs false

set_option maxHeartbeats 2000000 in
theorem rcheck_eq (n d : Nat) (neg : Bool) (g : Gk) (l : List Nat) (hl : Limbs l) : evalFn Tryz.prog cfg0 n (d+1) 97 [.tree (encA neg g l)] = some (.tree (.bool (chkN neg l)), [[]]) := by
  rw [evalFn_go _ Tryz.func97 (by unfold Tryz.f97; rfl) (by unfold Tryz.f97; decide) (Nat.le_of_ble_eq_true (by unfold Tryz.f97; rfl)) (by kernel_rfl)]
  unfold chkN
  by_cases h : (l.length : Int) ≤ 12
  rotate_left
  · have e1 : decide (l.length ≤ 12) = false := decide_eq_false (by omega)
    simp only [simB, zbo, Nat.reduceBEq, own0, ↓reduceIte, Nat.reduceEqDiff, Nat.reduceAdd, env0, List.getElem?_cons_zero, List.getElem?_cons_succ, zdv, zdw, zdx, zdy, zdz, zea, zeb, zec, ia22, ld31, zed, zee, zef, zeg, zeh, zei, zej, zek, zel, zem, zen, zeo, zep, zeq, zer, fa_0, fa_1, zes, bd_0, bd_2, zet, fd_1, zeu, Nat.zero_add, st0_1, h, e1, Bool.false_and]
    exact finish_tree _ _ _ _ _ _ (.bool false) _ _ (by simp only [zfp, ↓reduceIte]) rfl rfl
  have e1 : decide (l.length ≤ 12) = true := decide_eq_true (by omega)
  by_cases hz : l = []
  · subst hz
    have p1 : (((([] : List Nat).length : Nat) : Int) == 0) = true := rfl
    cases neg with
    | false =>
      simp only [simB, zbo, Nat.reduceBEq, own0, ↓reduceIte, Nat.reduceEqDiff, Nat.reduceAdd, env0, List.getElem?_cons_zero, List.getElem?_cons_succ, zdv, zdw, zdx, zdy, zdz, zea, zeb, zec, ia22, ld31, zed, zee, zef, zeg, zeh, zei, zej, zek, zel, zem, zen, zeo, zep, zeq, zer, fa_0, fa_1, zes, bd_0, bd_2, zet, fd_1, zeu, Nat.zero_add, st0_1, h, p1, unA_not', Bool.not_false]
      exact finish_tree _ _ _ _ _ _ (.bool true) _ _ (by simp only [zfp, ↓reduceIte]) rfl rfl
    | true =>
      have p2 : ¬ ((([] : List Nat).length : Nat) : Int) > 0 := by simp
      simp only [simB, zbo, Nat.reduceBEq, own0, ↓reduceIte, Nat.reduceEqDiff, Nat.reduceAdd, env0, List.getElem?_cons_zero, List.getElem?_cons_succ, zdv, zdw, zdx, zdy, zdz, zea, zeb, zec, ia22, ld31, zed, zee, zef, zeg, zeh, zei, zej, zek, zel, zem, zen, zeo, zep, zeq, zer, fa_0, fa_1, zes, bd_0, bd_2, zet, fd_1, zeu, Nat.zero_add, st0_1, h, p1, p2, unA_not', Bool.not_true]
      exact finish_tree _ _ _ _ _ _ (.bool false) _ _ (by simp only [zfp, ↓reduceIte]) rfl rfl
  · have hp : 0 < l.length := List.length_pos_iff.mpr hz
    have p1 : ((l.length : Int) == 0) = false := by rw [beq_eq_false_iff_ne]; omega
    have p2 : (l.length : Int) > 0 := by omega
    have p3 := i_sub Tryz.prog 3 (l.length : Int) 1 (by omega) (by omega)
    have p4 : (0 : Int) ≤ (l.length : Int) - 1 := by omega
    have p5 : (l.length : Int) - 1 < l.length := by omega
    have p6 : ((l.length : Int) - 1).toNat = l.length - 1 := by omega
    have p7 : l.length - 1 < l.length := by omega
    have q1 : decide (l.length = 0) = false := decide_eq_false (by omega)
    have q2 : decide (0 < l.length) = true := decide_eq_true hp
    simp only [simB, zbo, Nat.reduceBEq, own0, ↓reduceIte, Nat.reduceEqDiff, Nat.reduceAdd, env0, List.getElem?_cons_zero, List.getElem?_cons_succ, zdv, zdw, zdx, zdy, zdz, zea, zeb, zec, ia22, ld31, zed, zee, zef, zeg, zeh, zei, zej, zek, zel, zem, zen, zeo, zep, zeq, zer, fa_0, fa_1, zes, bd_0, bd_2, zet, fd_1, zeu, Nat.zero_add, st0_1, h, p1, p2, p3, p4, p5, p6, p7, e1, q1, q2, neq0, Bool.false_and, Bool.false_or, Bool.true_and]
    exact finish_tree _ _ _ _ _ _ (.bool (decide (l.getD (l.length - 1) 0 ≠ 0))) _ _ (by simp only [zfp, ↓reduceIte]) rfl rfl
theorem cRcheck (n d : Nat) (neg : Bool) (g : Gk) (l : List Nat) (hl : Limbs l) (D : Nat) (s : St) : callA cfg0 (evalFn Tryz.prog cfg0 n (d+1)) D s 97 [encA neg g l] = some (.bool (chkN neg l), s) :=
  callA_trees rfl (rcheck_eq n d neg g l hl)
set_option maxHeartbeats 2000000 in
theorem sameN_eq (n d : Nat) (b : Bool) (g g' : Gk) (l : List Nat) (hn : l.length < n) (hk : l.length ≤ 1000000) : evalFn Tryz.prog cfg0 n (d+2) 39 [.tree (encA b g l), .tree (encA b g' l)] = some (.tree (.bool true), [[], []]) := by
  rw [evalFn_go _ Tryz.func39 (by unfold Tryz.f39; rfl) (by unfold Tryz.f39; decide) (Nat.le_of_ble_eq_true (by unfold Tryz.f39; rfl)) (by kernel_rfl)]
  have c1 := fun D s => callA_L2 (evalFn Tryz.prog cfg0 n (d+1)) D s 67 g l g' l _ (same_eq n d g g' l hn hk)
  have eb := bool_eql 4 tk4
  have p : (b == b) = true := beq_self_eq_true b
  simp only [simB, zbo, Nat.reduceBEq, own0, ↓reduceIte, Nat.reduceEqDiff, Nat.reduceAdd, env0, List.getElem?_cons_zero, List.getElem?_cons_succ, zdv, zdw, zdx, zdy, zdz, zea, zeb, zec, ia22, ld31, zed, zee, zef, zeg, zeh, zei, zej, zek, zel, zem, zen, zeo, zep, zeq, zer, fa_0, fa_1, zes, bd_0, bd_2, zet, fd_1, zeu, Nat.zero_add, st0_2, eb, p, c1]
  exact finish_b _ _ _ _ _ _ _ (by simp only [zfp, ↓reduceIte]) rfl
section
variable (n d : Nat) (hn : 100000 ≤ n)
include hn
end
end Go.Ab

/- Terms as structs: their cells, read and written. No conditions. -/
namespace Go.Ab
open Go.Proofs
set_option maxRecDepth 100000
set_option linter.unusedSimpArgs false

theorem tkT : tkOf Tryz.prog 29 = .st := by kernel_rfl
theorem eszT : esz Tryz.prog 29 = some 6 := by kernel_rfl
theorem shT : shOf Tryz.prog 29 = some (true, 6) := by kernel_rfl
theorem zeroT : zeroOf Tryz.prog 29 = some [.int .i64 0, .bool false, .sl [] 0 .nil, .str [], .int .i64 0, .sl [] 0 .nil] := by kernel_rfl
theorem plT : placesA Tryz.prog 29 = some [(0, 1), (1, 2), (3, 1), (4, 1), (5, 1)] := by kernel_rfl
theorem fdT0 : fieldOf Tryz.prog 29 0 = some (3, 0) := by kernel_rfl
theorem fdT1 : fieldOf Tryz.prog 29 1 = some (27, 1) := by kernel_rfl
theorem fdT2 : fieldOf Tryz.prog 29 2 = some (9, 3) := by kernel_rfl
theorem fdT3 : fieldOf Tryz.prog 29 3 = some (3, 4) := by kernel_rfl
theorem fdT4 : fieldOf Tryz.prog 29 4 = some (22, 5) := by kernel_rfl
theorem eszTi : esz Tryz.prog 3 = some 1 := by kernel_rfl
theorem eszTs : esz Tryz.prog 9 = some 1 := by kernel_rfl
theorem eszTk : esz Tryz.prog 22 = some 1 := by kernel_rfl
theorem shTi : shOf Tryz.prog 3 = some (false, 1) := by kernel_rfl
theorem shTs : shOf Tryz.prog 9 = some (false, 1) := by kernel_rfl
theorem shTk : shOf Tryz.prog 22 = some (false, 1) := by kernel_rfl
theorem tkTk : tkOf Tryz.prog 22 = .sl 29 := by kernel_rfl
theorem faT_0 (s : St) (p k off : Nat) : fieldAddrA Tryz.prog 29 s (.ptr p k off) 0 = faE (s p) p k off := by
  simp only [fieldAddrA, fdT0, eszTi, live, cellsAt_E, faE, Nat.add_zero]
theorem faT_1 (s : St) (p k off : Nat) : fieldAddrA Tryz.prog 29 s (.ptr p k off) 1 = faE (s p) p k (off + 1) := by
  simp only [fieldAddrA, fdT1, esz24, live, cellsAt_E, faE]
theorem faT_2 (s : St) (p k off : Nat) : fieldAddrA Tryz.prog 29 s (.ptr p k off) 2 = faE (s p) p k (off + 3) := by
  simp only [fieldAddrA, fdT2, eszTs, live, cellsAt_E, faE]
theorem faT_3 (s : St) (p k off : Nat) : fieldAddrA Tryz.prog 29 s (.ptr p k off) 3 = faE (s p) p k (off + 4) := by
  simp only [fieldAddrA, fdT3, eszTi, live, cellsAt_E, faE]
theorem faT_4 (s : St) (p k off : Nat) : fieldAddrA Tryz.prog 29 s (.ptr p k off) 4 = faE (s p) p k (off + 5) := by
  simp only [fieldAddrA, fdT4, eszTk, live, cellsAt_E, faE]
section
variable (t k : Nat) (a b c d e f : AV)
theorem ldT_a : ldE Tryz.prog 29 ⟨t, .buf [a, b, c, d, e, f]⟩ k 0 = if t = k then some (.agg [a, b, c, d, e, f]) else none := by
  rw [ldE_buf, cellsE_buf]
  by_cases h : t = k
  · simp [h, partA, shT]
  · simp [h]
theorem ldT_0 : ldE Tryz.prog 3 ⟨t, .buf [a, b, c, d, e, f]⟩ k 0 = if t = k then some a else none := by
  rw [ldE_buf, cellsE_buf]
  by_cases h : t = k
  · simp [h, partA, shTi]
  · simp [h]
theorem ldT_1 : ldE Tryz.prog 27 ⟨t, .buf [a, b, c, d, e, f]⟩ k 1 = if t = k then some (.agg [b, c]) else none := by
  rw [ldE_buf, cellsE_buf]
  by_cases h : t = k
  · simp [h, partA, sh24]
  · simp [h]
theorem ldT_2 : ldE Tryz.prog 9 ⟨t, .buf [a, b, c, d, e, f]⟩ k 3 = if t = k then some d else none := by
  rw [ldE_buf, cellsE_buf]
  by_cases h : t = k
  · simp [h, partA, shTs]
  · simp [h]
theorem ldT_3 : ldE Tryz.prog 3 ⟨t, .buf [a, b, c, d, e, f]⟩ k 4 = if t = k then some e else none := by
  rw [ldE_buf, cellsE_buf]
  by_cases h : t = k
  · simp [h, partA, shTi]
  · simp [h]
theorem ldT_4 : ldE Tryz.prog 22 ⟨t, .buf [a, b, c, d, e, f]⟩ k 5 = if t = k then some f else none := by
  rw [ldE_buf, cellsE_buf]
  by_cases h : t = k
  · simp [h, partA, shTk]
  · simp [h]
end
/-- A struct put over another one. -/
def stT (e : Ent) (p k : Nat) (s : St) (ys : List AV) : Option St :=
  match e with | ⟨t', .buf xs⟩ => if t' = k then (if ys.length ≤ xs.length then some (upd s p ⟨t', .buf (splice xs 0 ys)⟩) else none) else none | _ => none
theorem st_T (s : St) (p k : Nat) (a b c d e f : AV) : storeA Tryz.prog 29 s (.ptr p k 0) (.agg [a, b, c, d, e, f]) = stT (s p) p k s [a, b, c, d, e, f] := by
  simp only [storeA, settle, Option.bind_some, stT]
  cases h : s p with
  | mk t c => cases c <;> simp [eszT]
theorem stT_buf (t k p : Nat) (s : St) (a b c d e f a' b' c' d' e' f' : AV) : stT ⟨t, .buf [a', b', c', d', e', f']⟩ p k s [a, b, c, d, e, f] = if t = k then some (upd s p ⟨t, .buf [a, b, c, d, e, f]⟩) else none := by
  simp [stT, splice]
/-! ### Terms put together -/
theorem bdT_ : buildA Tryz.prog 29 [] = some (.agg [.int .i64 0, .bool false, .sl [] 0 .nil, .str [], .int .i64 0, .sl [] 0 .nil]) := by
  simp only [buildA, zeroT, tkT, plT, Option.bind_some, fillA]; rfl
theorem bdT_0 (k : Int) : buildA Tryz.prog 29 [(0, .int .i64 k)] = some (.agg [.int .i64 k, .bool false, .sl [] 0 .nil, .str [], .int .i64 0, .sl [] 0 .nil]) := by
  simp only [buildA, zeroT, tkT, plT, Option.bind_some]; rfl
theorem bdT_1 (k : Int) (b : Bool) (g : Gk) (l : List Nat) : buildA Tryz.prog 29 [(0, .int .i64 k), (1, .agg [.bool b, encL g l])] = some (.agg [.int .i64 k, .bool b, encL g l, .str [], .int .i64 0, .sl [] 0 .nil]) := by
  simp only [buildA, zeroT, tkT, plT, Option.bind_some]; rfl
theorem bdT_2 (k : Int) (s : List UInt8) : buildA Tryz.prog 29 [(0, .int .i64 k), (2, .str s)] = some (.agg [.int .i64 k, .bool false, .sl [] 0 .nil, .str s, .int .i64 0, .sl [] 0 .nil]) := by
  simp only [buildA, zeroT, tkT, plT, Option.bind_some]; rfl
theorem bdT_4 (k : Int) (xs : List AV) (m : Nat) (g : Gk) : buildA Tryz.prog 29 [(0, .int .i64 k), (4, .sl xs m (gr g))] = some (.agg [.int .i64 k, .bool false, .sl [] 0 .nil, .str [], .int .i64 0, .sl xs m (gr g)]) := by
  simp only [buildA, zeroT, tkT, plT, Option.bind_some]
  cases g <;> rfl
theorem lenTk (s : St) (xs : List AV) (m : Nat) (g : Grip) : lenA Tryz.prog 22 s (.sl xs m g) = some (.int .i64 (m : Int)) := by simp only [lenA, tkTk]
end Go.Ab

/- The term statements' own example, by the kernel's own reckoning. No conditions. -/
namespace Go.Ab
open Go.Proofs
end Go.Ab

/- Terms of each kind: compared, the same. Conditions: limbs in range. -/
namespace Go.Ab
open Go.Proofs
set_option maxRecDepth 100000
set_option linter.unusedSimpArgs false

section
variable (b : Bool) (g : Gk) (l : List Nat) (s : List UInt8)
end
end Go.Ab

/- A term of each kind beside itself. Conditions: limbs in range. -/
namespace Go.Ab
open Go.Proofs
set_option maxRecDepth 100000
set_option linter.unusedSimpArgs false

theorem s_neqS (P : Program) (t : TypeId) (a b : List UInt8) : binA P .neq t (.str a) (.str b) = some (.bool (!(a == b))) := rfl
theorem s_eqlS (P : Program) (t : TypeId) (a b : List UInt8) : binA P .eql t (.str a) (.str b) = some (.bool (a == b)) := rfl
theorem faN_1 (s : St) (p k off : Nat) : fieldAddrA Tryz.prog 27 s (.ptr p k off) 1 = faE (s p) p k (off + 1) := by
  simp only [fieldAddrA, fd24_1, esz22, live, cellsAt_E, faE]
theorem ldT_l (t k : Nat) (a b c d e f : AV) : ldE Tryz.prog 25 ⟨t, .buf [a, b, c, d, e, f]⟩ k 2 = if t = k then some c else none := by
  rw [ldE_buf, cellsE_buf]
  by_cases h : t = k
  · simp [h, partA, sh22]
  · simp [h]
section
variable (b : Bool) (g : Gk) (l : List Nat) (s : List UInt8)
set_option maxHeartbeats 8000000
end
end Go.Ab

/- Terms as trees: their cells; how deep, how many; what term.check asks. No conditions. -/
namespace Go.Ab
open Go.Proofs
set_option maxRecDepth 100000
set_option linter.unusedSimpArgs false

inductive T where
  | mk (k : Int) (b : Bool) (lg : Gk) (l : List Nat) (s : List UInt8) (n : Int) (kg : Gk) (ks : List T)
mutual
def cellsT : T → List AV
  | .mk k b lg l s n kg ks => [.int .i64 k, .bool b, encL lg l, .str s, .int .i64 n, .sl (cellsK ks) ks.length (gr kg)]
def cellsK : List T → List AV
  | [] => []
  | t :: r => cellsT t ++ cellsK r
end
def encT (t : T) : AV := .agg (cellsT t)
mutual
def nodT : T → Nat
  | .mk _ _ _ _ _ _ _ ks => nodK ks + 1
def nodK : List T → Nat
  | [] => 0
  | t :: r => nodT t + nodK r
end
mutual
def htT : T → Nat
  | .mk _ _ _ _ _ _ _ ks => htK ks + 1
def htK : List T → Nat
  | [] => 0
  | t :: r => max (htT t) (htK r)
end
theorem cellsT_len (t : T) : (cellsT t).length = 6 := by cases t; simp only [cellsT]; rfl
theorem cellsK_len : ∀ ks : List T, (cellsK ks).length = ks.length * 6
  | [] => rfl
  | t :: r => by simp only [cellsK, List.length_append, cellsT_len, cellsK_len r, List.length_cons]; omega
theorem cellsK_drop : ∀ (ks : List T) (i : Nat), (cellsK ks).drop (i * 6) = cellsK (ks.drop i)
  | [], i => by simp [cellsK]
  | t :: r, 0 => by simp
  | t :: r, i + 1 => by
    have h : (i + 1) * 6 = (cellsT t).length + i * 6 := by rw [cellsT_len]; omega
    simp only [cellsK, List.drop_succ_cons]
    rw [h, ← List.drop_drop, List.drop_left, cellsK_drop r i]
theorem cellsK_append (a b : List T) : cellsK (a ++ b) = cellsK a ++ cellsK b := by
  induction a with
  | nil => rfl
  | cons t r ih => simp only [List.cons_append, cellsK, ih, List.append_assoc]
theorem ia_K (s : St) (ks : List T) (g : Grip) (i : Nat) (h : i < ks.length) : indexAddrA Tryz.prog 22 s (.sl (cellsK ks) ks.length g) (.int .i64 (i : Int)) = some (.rptr (cellsK (ks.drop i))) := by
  simp only [indexAddrA, tkTk, eszT, Option.bind_some, Int.toNat_natCast]
  rw [if_pos ⟨by omega, by omega⟩, cellsK_drop]
theorem ld_K (s : St) (t : T) (r : List T) : loadA Tryz.prog 29 s (.rptr (cellsK (t :: r))) = some (encT t) := by
  have h : (cellsT t ++ cellsK r).take 6 = cellsT t := by rw [← cellsT_len t]; simp
  have h2 : 6 ≤ (cellsT t ++ cellsK r).length := by rw [List.length_append, cellsT_len]; omega
  simp only [loadA, partA, shT, cellsK, Nat.zero_add, h2, ↓reduceIte, List.drop_zero, h, encT]
theorem nod_pos (t : T) : 0 < nodT t := by cases t; simp [nodT]
theorem nodK_len : ∀ ks : List T, ks.length ≤ nodK ks
  | [] => Nat.le_refl _
  | t :: r => by have := nod_pos t; have := nodK_len r; simp only [nodK, List.length_cons]; omega
theorem drop_next {α : Type} {ks : List α} {i : Nat} {t : α} {r : List α} (h : ks.drop i = t :: r) : ks.drop (i + 1) = r := by
  rw [← List.drop_drop, h]; rfl
end Go.Ab

/- Strings: short things. No conditions. -/
namespace Go.Ab
open Go.Proofs
set_option maxRecDepth 100000
set_option linter.unusedSimpArgs false

theorem len9 (s : St) (b : List UInt8) : lenA Tryz.prog 9 s (.str b) = some (.int .i64 (b.length : Int)) := by simp only [lenA, tk9]
theorem ix9 (b : List UInt8) (k : IntKind) (i : Int) : indexA Tryz.prog 9 (.str b) (.int k i) = if 0 ≤ i ∧ i < b.length then some (.int .u8 ((b.getD i.toNat 0).toNat : Int)) else none := by simp only [indexA, tk9]
theorem zew (P : Program) (t : TypeId) (a b : List UInt8) : binA P .eql t (.str a) (.str b) = some (.bool (a == b)) := rfl
theorem zex (P : Program) (t : TypeId) (a b : List UInt8) : binA P .neq t (.str a) (.str b) = some (.bool (!(a == b))) := rfl
theorem s_addS (P : Program) (t : TypeId) (a b : List UInt8) (h : a.length + b.length ≤ 9223372036854775807) : binA P .add t (.str a) (.str b) = some (.str (a ++ b)) := if_pos h
theorem zey (s : St) (b : List UInt8) (k : IntKind) (i : Int) : sliceA Tryz.prog 9 s (.str b) (some (.int k i)) none none = if 0 ≤ i ∧ i ≤ b.length then some (.str (b.drop i.toNat)) else none := by
  simp only [sliceA, tk9, boundA, Option.isSome_none, Bool.false_eq_true, if_false, Option.bind_some]
  split
  · rw [Option.bind_some, List.take_length]
  · rfl
theorem zez (s : St) (b : List UInt8) (k : IntKind) (i : Int) : sliceA Tryz.prog 9 s (.str b) none (some (.int k i)) none = if 0 ≤ i ∧ i ≤ b.length then some (.str (b.take i.toNat)) else none := by
  simp only [sliceA, tk9, boundA, Option.isSome_none, Bool.false_eq_true, if_false, Option.bind_some]
  split
  · rfl
  · rfl
end Go.Ab

/- Of a term by itself: is it right? No conditions but limbs in range. -/
namespace Go.Ab
open Go.Proofs
set_option maxRecDepth 100000
set_option linter.unusedSimpArgs false

def zeroB (b : Bool) (l : List Nat) : Bool := !b && decide (l.length = 0)
theorem len23 (s : St) (g : Gk) (l : List Nat) : lenA Tryz.prog 25 s (encL g l) = some (.int .i64 (l.length : Int)) := zdv s g l
def okC (c : UInt8) : Bool := decide (33 ≤ c.toNat) && decide (c.toNat ≤ 126)
def nameB (s : List UInt8) : Bool := decide (1 ≤ s.length) && decide (s.length ≤ 40) && s.all okC
/-- Is a term right, but for what it is made of? -/
def ownT : T → Bool
  | .mk k b _ l s n _ ks => decide (1 ≤ k ∧ k ≤ 6) && ((if k = 1 then chkN b l else zeroB b l) && (if k = 2 then nameB s else if k = 6 then decide (s.length ≤ 400) else s == []) && (if k = 4 then decide (ks.length = 2) else if k = 5 then decide (ks.length ≤ 40) else decide (ks.length = 0)) && decide (n = 0))
def limT : T → List Nat
  | .mk _ _ _ l _ _ _ _ => l
theorem i_eqlV (x y : Int) : binA Tryz.prog .eql 3 (.int .i64 x) (.int .i64 y) = some (.bool (x == y)) := rfl
section
variable {P : Program} {cfg : Cfg} {call : FuncId → List Arg → Option Out} {n : Nat}
end
end Go.Ab

/- term.check. Conditions: limbs in range; so many nodes at most. -/
namespace Go.Ab
open Go.Proofs
set_option maxRecDepth 100000
set_option linter.unusedSimpArgs false

end Go.Ab

/- term.check, walked. Conditions: limbs in range; so many nodes at most. -/
namespace Go.Ab
open Go.Proofs
set_option maxRecDepth 100000
set_option linter.unusedSimpArgs false

theorem stT_len (e : Ent) (p k : Nat) (s : St) (ys : List AV) (t : Nat) (xs : List AV) (he : e = ⟨t, .buf xs⟩) (h1 : xs.length = 6) (h2 : ys.length = 6) : stT e p k s ys = if t = k then some (upd s p ⟨t, .buf ys⟩) else none := by
  subst he
  have h3 : splice xs 0 ys = ys := by
    simp only [splice, List.take_zero, List.nil_append, Nat.zero_add, h2]
    rw [List.drop_eq_nil_of_le (by omega), List.append_nil]
  simp only [stT, h1, h2, Nat.le_refl, ↓reduceIte, h3]
theorem st_Tt (s : St) (p k : Nat) (u : T) : storeA Tryz.prog 29 s (.ptr p k 0) (.agg (cellsT u)) = stT (s p) p k s (cellsT u) := by
  obtain ⟨a, b, c, d, e, f, g, h⟩ := u
  simp only [cellsT]
  exact st_T s p k _ _ _ _ _ _
theorem stT_6 (t k p : Nat) (s : St) (a b c d e f : AV) (u : T) : stT ⟨t, .buf [a, b, c, d, e, f]⟩ p k s (cellsT u) = if t = k then some (upd s p ⟨t, .buf (cellsT u)⟩) else none :=
  stT_len _ _ _ _ _ _ _ rfl rfl (cellsT_len u)
theorem stT_u (t k p : Nat) (s : St) (v u : T) : stT ⟨t, .buf (cellsT v)⟩ p k s (cellsT u) = if t = k then some (upd s p ⟨t, .buf (cellsT u)⟩) else none :=
  stT_len _ _ _ _ _ _ _ rfl (cellsT_len v) (cellsT_len u)
theorem ldT_u (t k : Nat) (u : T) : ldE Tryz.prog 29 ⟨t, .buf (cellsT u)⟩ k 0 = if t = k then some (.agg (cellsT u)) else none := by
  obtain ⟨a, b, c, d, e, f, g, h⟩ := u
  simp only [cellsT]
  exact ldT_a _ _ _ _ _ _ _ _
end Go.Ab

/- term.Check, term.Nodes. Conditions: limbs in range; so many nodes at most. -/
namespace Go.Ab
open Go.Proofs
set_option maxRecDepth 100000
set_option linter.unusedSimpArgs false

end Go.Ab

/- What comparing terms needs. No conditions but limbs in range. -/
namespace Go.Ab
open Go.Proofs
set_option maxRecDepth 100000
set_option linter.unusedSimpArgs false

def three (a b : Int) : Int := if a < b then -1 else if b < a then 1 else 0
theorem ld33 (s : St) (x : AV) (r : List AV) : loadA Tryz.prog 3 s (.rptr (x :: r)) = some x := by
  simp only [loadA, partA, shTi]
  rfl
theorem finish_cT (k : Bool) (xs : List Arg) (a p e : Nat) (u : T) (env : Env) (s : St) (os : List (List AV)) (ha : env a = .ptr p e 0) (hs : s p = ⟨e, .buf (cellsT u)⟩) (ho : outsA s 0 xs = some os) :
    finishP Tryz.prog k xs #[.cell a 29] env s = some (.tree (encT u), os) := by
  have hl : loadA Tryz.prog 29 s (env a) = some (.agg (cellsT u)) := by rw [ha, zem, hs, ldT_u, if_pos rfl]
  simp [finishP, isTmpR, hl, settle, ho, encT]
end Go.Ab

/- term.Cmp upon terms that may be. Conditions: terms that may be; so many nodes at most. -/
namespace Go.Ab
open Go.Proofs
set_option maxRecDepth 100000
set_option linter.unusedSimpArgs false

mutual
/-- A term that is right by itself, everywhere; limbs in range. -/
def goodT : T → Prop
  | .mk k b lg l s n kg ks => Limbs l ∧ ownT (.mk k b lg l s n kg ks) = true ∧ goodK ks
def goodK : List T → Prop
  | [] => True
  | t :: r => goodT t ∧ goodK r
end
def kindT : T → Int
  | .mk k _ _ _ _ _ _ _ => k
def strT : T → List UInt8
  | .mk _ _ _ _ s _ _ _ => s
def kidsT : T → List T
  | .mk _ _ _ _ _ _ _ ks => ks
end Go.Ab

/- term.Cmp upon terms that may be, walked. Conditions: terms that may be; so many nodes at most. -/
namespace Go.Ab
open Go.Proofs
set_option maxRecDepth 100000
set_option linter.unusedSimpArgs false

end Go.Ab

/- term.Same, walked. Conditions: so many limbs, nodes at most. -/
namespace Go.Ab
open Go.Proofs
set_option maxRecDepth 100000
set_option linter.unusedSimpArgs false

def sgnT : T → Bool
  | .mk _ b _ _ _ _ _ _ => b
mutual
def fewT (m : Nat) : T → Prop
  | .mk _ _ _ l _ _ _ ks => l.length < m ∧ ks.length < m ∧ fewK m ks
def fewK (m : Nat) : List T → Prop
  | [] => True
  | t :: r => fewT m t ∧ fewK m r
end
theorem fewK_at (m : Nat) : ∀ (ks : List T) (i : Nat) (t : T) (r : List T), ks.drop i = t :: r → fewK m ks → fewT m t
  | [], i, t, r, h, _ => by simp at h
  | a :: q, 0, t, r, h, hw => by simp only [List.drop_zero, List.cons.injEq] at h; obtain ⟨rfl, rfl⟩ := h; simp only [fewK] at hw; exact hw.1
  | a :: q, i + 1, t, r, h, hw => by simp only [fewK] at hw; exact fewK_at m q i t r (by simpa using h) hw.2
end Go.Ab

/- The document's own check of a term by itself. Conditions: limbs in range; a text shorter than the rounds. -/
namespace Go.Ab
open Go.Proofs
set_option maxRecDepth 100000
set_option linter.unusedSimpArgs false

theorem i_neqV (x y : Int) : binA Tryz.prog .neq 3 (.int .i64 x) (.int .i64 y) = some (.bool (x != y)) := rfl
end Go.Ab

/- What the abstract run gives, it gives with more rounds and more depth too. No conditions. -/
namespace Go.Ab
section
variable {P : Program} {cfg : Cfg} {call call' : FuncId → List Arg → Option Out}
def Less (call call' : FuncId → List Arg → Option Out) : Prop := ∀ f as1 r, call f as1 = some r → call' f as1 = some r
theorem callA_mono (h : Less call call') {d : Nat} {s : St} {f : FuncId} {vs : List AV} {r : AV × St} (hc : callA cfg call d s f vs = some r) : callA cfg call' d s f vs = some r := by
  unfold callA at hc ⊢
  cases ha : argsA cfg f s 0 vs with
  | none => rw [ha] at hc; cases hc
  | some as1 =>
    rw [ha] at hc
    simp only [Option.bind_some] at hc ⊢
    split at hc
    · rename_i hg
      rw [if_pos hg]
      cases hcc : call f as1 with
      | none => rw [hcc] at hc; cases hc
      | some o => rw [hcc] at hc; rw [h _ _ _ hcc]; exact hc
    · cases hc
theorem callQ_mono (h : Less call call') {f : FuncId} {vs : List AV} {r : AV} (hc : callQ call f vs = some r) : callQ call' f vs = some r := by
  unfold callQ at hc ⊢
  split at hc
  · rename_i hg
    rw [if_pos hg]
    cases hcc : call f (vs.map .tree) with
    | none => rw [hcc] at hc; cases hc
    | some o => rw [hcc] at hc; rw [h _ _ _ hcc]; exact hc
  · rename_i hg
    rw [if_neg hg]
    split at hc
    · rename_i hg2
      rw [if_pos hg2]
      cases hcc : call f (vs.map fun v => .tree (loosen v)) with
      | none => rw [hcc] at hc; cases hc
      | some o => rw [hcc] at hc; rw [h _ _ _ hcc]; exact hc
    · cases hc
theorem opA_mono (h : Less call call') {q : Bool} {o : Oper} {d : Nat} {env : Env} {s : St} {r : AV × St} (hc : opA P cfg call q o d env s = some r) : opA P cfg call' q o d env s = some r := by
  obtain ⟨dst, op, ty, pos, af, g⟩ := o
  cases op with
  | call c =>
    obtain ⟨ce, as1, us⟩ := c
    cases ce with
    | value f =>
      simp only [opA] at hc ⊢
      split at hc
      · split at hc
        · rename_i hq
          rw [if_pos hq]
          split at hc
          · rename_i h1
            rw [if_pos h1]
            split at hc
            · rename_i h2
              rw [if_pos h2]
              exact callA_mono h hc
            · cases hc
          · rename_i h1
            rw [if_neg h1]
            obtain ⟨v, hcc, hv⟩ := Option.map_eq_some_iff.mp hc
            rw [callQ_mono h hcc]
            exact congrArg some hv
        · rename_i hq
          rw [if_neg hq]
          exact callA_mono h hc
      · cases hc
    | builtin b => cases b <;> exact hc
    | _ => exact hc
  | _ => exact hc
theorem opsA_mono (h : Less call call') {q : Bool} {ops : Array Oper} : ∀ (l : List Oper) {env : Env} {s : St} {r : Env × St}, opsA P cfg call q ops l env s = some r → opsA P cfg call' q ops l env s = some r
  | [], env, s, r, hc => hc
  | o :: l, env, s, r, hc => by
    simp only [opsA] at hc ⊢
    cases hw : wantA ops o env with
    | none => rw [hw] at hc; cases hc
    | some b =>
      rw [hw] at hc
      cases b with
      | false => exact opsA_mono h l hc
      | true =>
        simp only at hc ⊢
        cases ho : opA P cfg call q o (o.dst.getD 0) env s with
        | none => rw [ho] at hc; cases hc
        | some x =>
          rw [ho] at hc
          rw [opA_mono h ho]
          simp only [Option.bind_some] at hc ⊢
          exact opsA_mono h l hc
def LessK (K K' : Kont) : Prop := ∀ e env s r, K e env s = some r → K' e env s = some r
theorem loopA_mono {b b' : Kont → Env → St → Option Out} (hb : ∀ K K', LessK K K' → ∀ env s r, b K env s = some r → b' K' env s = some r) {K K' : Kont} (hK : LessK K K') :
    ∀ (n n' : Nat), n ≤ n' → ∀ env s r, loopA b K n env s = some r → loopA b' K' n' env s = some r
  | 0, n', _, env, s, r, hc => by cases hc
  | n + 1, n', hn, env, s, r, hc => by
    obtain ⟨m, rfl⟩ : ∃ m, n' = m + 1 := ⟨n' - 1, by omega⟩
    simp only [loopA] at hc ⊢
    refine hb _ _ (fun e env s r h => ?_) _ _ _ hc
    cases e with
    | normal => exact loopA_mono hb hK n m (by omega) _ _ _ h
    | exit i => exact hK _ _ _ _ h
    | ret => exact hK _ _ _ _ h
theorem den_mono (h : Less call call') {n n' : Nat} (hn : n ≤ n') : ∀ (c : Code) {K K' : Kont}, LessK K K' → ∀ {env : Env} {s : St} {r : Out}, den P cfg call n c K env s = some r → den P cfg call' n' c K' env s = some r
  | .skip, K, K', hK, env, s, r, hc => hK _ _ _ _ hc
  | .label _, K, K', hK, env, s, r, hc => hK _ _ _ _ hc
  | .region _ ops draw, K, K', hK, env, s, r, hc => by
    simp only [den] at hc ⊢
    cases ho : opsA P cfg call draw ops ops.toList env (killI cfg.keep draw ops.toList s) with
    | none => rw [ho] at hc; cases hc
    | some x =>
      rw [ho] at hc
      rw [opsA_mono h _ ho]
      exact hK _ _ _ _ hc
  | .seq a b, K, K', hK, env, s, r, hc => by
    simp only [den] at hc ⊢
    refine den_mono h hn a (fun e env s r hh => ?_) hc
    cases e with
    | normal => exact den_mono h hn b hK hh
    | exit i => exact hK _ _ _ _ hh
    | ret => exact hK _ _ _ _ hh
  | .cond c a b, K, K', hK, env, s, r, hc => by
    simp only [den] at hc ⊢
    cases hv : ev env c <;> rw [hv] at hc <;> try cases hc
    rename_i x
    cases x with
    | true => exact den_mono h hn a hK hc
    | false => exact den_mono h hn b hK hc
  | .scope a, K, K', hK, env, s, r, hc => by
    simp only [den] at hc ⊢
    exact den_mono h hn a hK hc
  | .block id a, K, K', hK, env, s, r, hc => by
    simp only [den] at hc ⊢
    refine den_mono h hn a (fun e env s r hh => ?_) hc
    cases e with
    | normal => exact hK _ _ _ _ hh
    | exit i =>
      simp only at hh ⊢
      split at hh
      · rename_i hi; rw [if_pos hi]; exact hK _ _ _ _ hh
      · rename_i hi; rw [if_neg hi]; exact hK _ _ _ _ hh
    | ret => exact hK _ _ _ _ hh
  | .loop a, K, K', hK, env, s, r, hc => by
    simp only [den] at hc ⊢
    exact loopA_mono (b := den P cfg call n a) (b' := den P cfg call' n' a) (fun K K' hK env s r hh => den_mono h hn a hK hh) hK n n' hn _ _ _ hc
  | .exit id, K, K', hK, env, s, r, hc => hK _ _ _ _ hc
  | .ret, K, K', hK, env, s, r, hc => hK _ _ _ _ hc
  | .rangeFunc .., K, K', hK, env, s, r, hc => by cases hc
  | .goto _, K, K', hK, env, s, r, hc => by cases hc
  | .refuse _, K, K', hK, env, s, r, hc => by cases hc
theorem evalFn_mono {n n' : Nat} (hn : n ≤ n') : ∀ (d d' : Nat), d ≤ d' → Less (evalFn P cfg n d) (evalFn P cfg n' d')
  | 0, _, _, f, as1, r, hc => by cases hc
  | d + 1, d', hd, f, as1, r, hc => by
    obtain ⟨m, rfl⟩ : ∃ m, d' = m + 1 := ⟨d' - 1, by omega⟩
    simp only [evalFn] at hc ⊢
    cases hp : cfg.prim f as1 with
    | some o => rw [hp] at hc; exact hc
    | none =>
      rw [hp] at hc
      simp only at hc ⊢
      cases hf : P.funcs[f]? with
      | none => rw [hf] at hc; cases hc
      | some fn =>
        rw [hf] at hc
        simp only at hc ⊢
        cases hb : fn.body with
        | none => rw [hb] at hc; cases hc
        | some c =>
          rw [hb] at hc
          simp only at hc ⊢
          split at hc
          · rename_i hg
            rw [if_pos hg]
            exact den_mono (evalFn_mono hn d m (by omega)) hn _ (fun _ _ _ _ hh => hh) hc
          · cases hc
end
end Go.Ab

/- The document's own check of terms, walked. Conditions: limbs in range; texts shorter than the rounds. -/
namespace Go.Ab
open Go.Proofs
set_option maxRecDepth 100000
set_option linter.unusedSimpArgs false

mutual
/-- Limbs in range, texts not too long, everywhere. -/
def bigT (R : Nat) : T → Prop
  | .mk _ _ _ l s _ _ ks => Limbs l ∧ s.length < R ∧ bigK R ks
def bigK (R : Nat) : List T → Prop
  | [] => True
  | t :: r => bigT R t ∧ bigK R r
end
theorem bigK_at (R : Nat) : ∀ (ks : List T) (i : Nat) (t : T) (r : List T), ks.drop i = t :: r → bigK R ks → bigT R t
  | [], i, t, r, h, _ => by simp at h
  | a :: q, 0, t, r, h, hw => by simp only [List.drop_zero, List.cons.injEq] at h; obtain ⟨rfl, rfl⟩ := h; simp only [bigK] at hw; exact hw.1
  | a :: q, i + 1, t, r, h, hw => by simp only [bigK] at hw; exact bigK_at R q i t r (by simpa using h) hw.2
end Go.Ab

/- Terms out of a statement's reading. No conditions. -/
namespace Go.Ab
open Go.Proofs Go.RowKit Go.ChangeShapes Go.WideShapes Go.ChangeAt
set_option maxRecDepth 100000

/-- Texts and lists are no longer than that. -/
def R0 : Nat := 9223372036854775808
theorem R0_max : maxLen < R0 := by unfold R0 maxLen; decide
theorem R0_in {n : Nat} (h : n ≤ maxLen) : n < R0 := Nat.lt_of_le_of_lt h R0_max
theorem R0_pos : 0 < R0 := by unfold R0; decide
set_option maxRecDepth 100000 in
theorem und28 : ∃ f0 f1 f2 f3 f4 : Field, Tryz.prog.underlying 29 = some (.struct #[f0, f1, f2, f3, f4]) ∧ (f0.type = 3 ∧ f1.type = 27 ∧ f2.type = 9 ∧ f3.type = 3 ∧ f4.type = 22) ∧ (f0.offset = 0 ∧ f1.offset = 1 ∧ f2.offset = 3 ∧ f3.offset = 4 ∧ f4.offset = 5) := by
  exact ⟨_, _, _, _, _, Tryz.underlying29, ⟨rfl, rfl, rfl, rfl, rfl⟩, ⟨rfl, rfl, rfl, rfl, rfl⟩⟩
theorem cells28 : Tryz.prog.cellsOf 29 = 6 := by kernel_rfl
theorem cellsOI : Tryz.prog.cellsOf 3 = 1 := by kernel_rfl
theorem cellsS : Tryz.prog.cellsOf 9 = 1 := by kernel_rfl
theorem cellsTk : Tryz.prog.cellsOf 22 = 1 := by kernel_rfl
theorem VC_app {S : Nat → Nat → Prop} {w : World} {b : Nat} : ∀ (xs ys : List AV) (o : Nat), VC S w xs b o → VC S w ys b (o + xs.length) → VC S w (xs ++ ys) b o
  | [], ys, o, _, h => by simpa using h
  | x :: xs, ys, o, h, h' => by
    simp only [List.cons_append, VC] at h ⊢
    exact ⟨h.1, h.2.1, VC_app xs ys (o + 1) h.2.2 (by rw [List.length_cons] at h'; rw [show o + 1 + xs.length = o + (xs.length + 1) by omega]; exact h')⟩
theorem VC_of_VL {S : Nat → Nat → Prop} {w : World} {b : Nat} : ∀ (xs : List AV) (vs : List Value) (o : Nat), VL S w xs vs → (∀ j v, vs[j]? = some v → S b (o + j) ∧ w.cell? ⟨b, o + j, none⟩ = some v) → VC S w xs b o
  | [], _, _, _, _ => by simp only [VC]
  | x :: xs, vs, o, h, hc => by
    simp only [VL] at h
    obtain ⟨v, r, rfl, h1, h2, h3⟩ := h
    simp only [VC]
    have h0 := hc 0 v rfl
    refine ⟨h0.1, ⟨v, h0.2, h1, h2⟩, VC_of_VL xs r (o + 1) h3 fun j u hj => ?_⟩
    have := hc (j + 1) u (by simpa using hj)
    rw [show o + (j + 1) = o + 1 + j by omega] at this
    exact this
theorem VC_terms {S : Nat → Nat → Prop} {w : World} {b : Nat} (R : Nat) : ∀ (len o : Nat), (∀ i, i < len → ∃ t, bigT R t ∧ fewT R t ∧ VC S w (cellsT t) b (o + i * 6)) → ∃ ks : List T, ks.length = len ∧ bigK R ks ∧ fewK R ks ∧ VC S w (cellsK ks) b o
  | 0, o, _ => ⟨[], rfl, by simp only [bigK], by simp only [fewK], by simp only [cellsK, VC]⟩
  | len + 1, o, h => by
    obtain ⟨t, h1, h2, h3⟩ := h 0 (by omega)
    obtain ⟨ks, k0, k1, k2, k3⟩ := VC_terms R len (o + 6) fun i hi => by
      obtain ⟨t, a1, a2, a3⟩ := h (i + 1) (by omega)
      exact ⟨t, a1, a2, by rw [show o + 6 + i * 6 = o + (i + 1) * 6 by omega]; exact a3⟩
    refine ⟨t :: ks, by simp [k0], by simp only [bigK]; exact ⟨h1, k1⟩, by simp only [fewK]; exact ⟨h2, k2⟩, ?_⟩
    simp only [cellsK]
    exact VC_app _ _ _ (by simpa using h3) (by rw [cellsT_len]; exact k3)
theorem cell_lt {w : World} {a : Addr} {v : Value} (h : w.cell? a = some v) : a.block < w.heap.size := by
  rw [World.cell?] at h
  cases hb : w.heap[a.block]? with
  | none => simp only [hb] at h; cases h
  | some o => exact (Array.getElem?_eq_some_iff.mp hb).1
theorem add_none (b o i : Nat) : (⟨b, o, none⟩ : Addr).add i = ⟨b, o + i, none⟩ := by
  unfold Addr.add
  split
  · rename_i h; rw [h]; rfl
  · rfl
theorem V0_str {S : Nat → Nat → Prop} {w : World} (s : ByteArray) : V0 S w (.str s.data.toList) (.string s) := by simp [V0]
section
variable {H : Type} {enc : TypeId × Value → H} {w : World} {base : Nat} {held : Bool}
theorem openT_cells : ∀ (fuel : Nat) (cs : List Value) (x : DataW H × List MemPlace), DataW.trod enc Tryz.prog w base (fun _ => true) held fuel 29 cs = some x →
    ∃ t : T, bigT R0 t ∧ fewT R0 t ∧ VL (old w) w (cellsT t) cs ∧ cs.length = 6
  | fuel, cs, x, h => by
    obtain ⟨f0, f1, f2, f3, f4, hu, ⟨t0, t1, t2, t3, t4⟩, ⟨o0, o1, o2, o3, o4⟩⟩ := und28
    obtain ⟨xs, n, hfu, _, hl, hxs, hf⟩ := DataW.trod_struct hu h
    rw [cells28] at hl
    match cs, hl with
    | [c0, c1, c2, c3, c4, c5], _ =>
      match xs, hxs with
      | [y0, y1, y2, y3, y4], _ =>
        have g0 := hf 0 f0 rfl
        have g1 := hf 1 f1 rfl
        have g2 := hf 2 f2 rfl
        have g3 := hf 3 f3 rfl
        have g4 := hf 4 f4 rfl
        rw [t0, o0, cellsOI] at g0
        rw [t1, o1, cells24] at g1
        rw [t2, o2, cellsS] at g2
        rw [t3, o3, cellsOI] at g3
        rw [t4, o4, cellsTk] at g4
        simp only [List.drop_zero, List.drop_succ_cons, List.take_succ_cons, List.take_zero, List.getElem?_cons_zero, List.getElem?_cons_succ] at g0 g1 g2 g3 g4
        obtain ⟨k, e0, _, _⟩ := DataW.trod_int Tryz.underlying3 g0
        obtain ⟨s, e2, _, hs⟩ := DataW.trod_string Tryz.underlying9 g2
        obtain ⟨m, e3, _, _⟩ := DataW.trod_int Tryz.underlying3 g3
        simp only [List.cons.injEq, and_true] at e0 e2 e3
        subst e0; subst e2; subst e3
        obtain ⟨n0, n1, hnu, s0, s1, p0, p1⟩ := und24
        obtain ⟨ys, n', _, _, hl2, hys, hf2⟩ := DataW.trod_struct hnu g1
        match ys, hys with
        | [z0, z1], _ =>
          have q0 := hf2 0 n0 rfl
          have q1 := hf2 1 n1 rfl
          rw [s0, p0, cells4] at q0
          rw [s1, p1, cells22] at q1
          simp only [List.drop_zero, List.drop_succ_cons, List.take_succ_cons, List.take_zero, List.getElem?_cons_zero, List.getElem?_cons_succ] at q0 q1
          obtain ⟨b, eb, _⟩ := DataW.trod_bool Tryz.underlying4 q0
          simp only [List.cons.injEq, and_true] at eb
          subst eb
          have hlim : ∃ l : List Nat, Limbs l ∧ l.length < R0 ∧ V0 (old w) w (encL .l l) c2 ∧ c2.oneCell' = true := by
            rcases open_ints Tryz.underlying25 Tryz.underlying57 (by kernel_rfl) q1 with ⟨hc, _⟩ | ⟨x, l, c, zs, hc, _, hl, hm, hz, _, hcell, hwz⟩
            · simp only [List.cons.injEq, and_true] at hc
              subst hc
              obtain ⟨l, h1, h2⟩ := limbsOf (w := w) (a := none) (len := 0) (cap := 0) (zs := []) (.inl ⟨rfl, rfl, rfl, rfl⟩)
              have hlen : l.length = 0 := by
                simp only [encL, V0] at h2
                obtain ⟨a, cap, he, _⟩ := h2
                injection he with _ h3 _
                exact h3.symm
              exact ⟨l, h1, by rw [hlen]; exact R0_in (by omega), h2, rfl⟩
            · simp only [List.cons.injEq, and_true] at hc
              subst hc
              obtain ⟨l', h1, h2⟩ := limbsOf (w := w) (a := some x) (len := l) (cap := c) (zs := zs) (.inr ⟨x, rfl, hl, hm, by simpa using hz, hcell, hwz⟩)
              have hlen : l'.length = l := by
                simp only [encL, V0] at h2
                obtain ⟨a, cap, he, _⟩ := h2
                injection he with _ h3 _
                exact h3.symm
              exact ⟨l', h1, by rw [hlen]; exact R0_in (by omega), h2, rfl⟩
          obtain ⟨l, hL, hLl, hV2, hO2⟩ := hlim
          have hkids : ∃ ks : List T, ks.length < R0 ∧ bigK R0 ks ∧ fewK R0 ks ∧ V0 (old w) w (.sl (cellsK ks) ks.length (gr .l)) c5 ∧ c5.oneCell' = true := by
            rcases DataW.trod_slice Tryz.underlying22 g4 with ⟨hc, _⟩ | ⟨a, len, cap, elems, rest, n2, hfn, hc, _, hb, hle, hm, hlen, hel, hsp, _⟩
            · simp only [List.cons.injEq, and_true] at hc
              subst hc
              refine ⟨[], R0_pos, by simp only [bigK], by simp only [fewK], ?_, rfl⟩
              simp only [V0, cellsK]
              exact ⟨none, 0, rfl, by simp, by simp [gr], by simp [Grip.isTok, gr], .inl (by simp)⟩
            · simp only [List.cons.injEq, and_true] at hc
              subst hc
              by_cases hcap : cap = 0
              · subst hcap
                have : len = 0 := by omega
                subst this
                refine ⟨[], R0_pos, by simp only [bigK], by simp only [fewK], ?_, rfl⟩
                simp only [V0, cellsK]
                exact ⟨some a, 0, rfl, by simp, by simp [gr], by simp [Grip.isTok, gr], .inl (by simp)⟩
              · have hsp := hsp rfl
                have key : ∀ i, i < cap → ∃ cs' y, w.cells? base (a.add (i * 6)) 6 = some cs' ∧ DataW.trod enc Tryz.prog w base (fun _ => true) held n2 29 cs' = some y := by
                  intro i hi
                  by_cases hil : i < len
                  · have h1 := hel i hil
                    rw [cells28] at h1
                    have h2 : elems[i]? = some (elems[i]'(by omega)) := List.getElem?_eq_getElem (by omega)
                    rw [h2] at h1
                    obtain ⟨cs', k1, k2⟩ := Option.bind_eq_some_iff.mp h1
                    exact ⟨cs', _, k1, k2⟩
                  · have h1 := hsp.2 (i - len) (by omega)
                    rw [cells28, show len + (i - len) = i by omega] at h1
                    have h2 : rest[i - len]? = some (rest[i - len]'(by omega)) := List.getElem?_eq_getElem (by omega)
                    rw [h2] at h1
                    obtain ⟨cs', k1, k2⟩ := Option.bind_eq_some_iff.mp h1
                    exact ⟨cs', _, k1, k2⟩
                obtain ⟨bl, of, spot⟩ := a
                have hs : spot = none := by
                  obtain ⟨cs', y, k1, k2⟩ := key 0 (by omega)
                  obtain ⟨_, h2, h3⟩ := World.cells?_some k1
                  have h4 := h3 0 (by omega)
                  have h5 : cs'[0]? = some (cs'[0]'(by omega)) := List.getElem?_eq_getElem (by omega)
                  rw [h5] at h4
                  simpa [Addr.add] using World.cell?_spot h4
                subst hs
                obtain ⟨ks, k0, k1, k2, k3⟩ := VC_terms (S := old w) (w := w) (b := bl) R0 len of fun i hi => by
                  obtain ⟨cs', y, a1, a2⟩ := key i (by omega)
                  obtain ⟨t, b1, b2, b3, b4⟩ := openT_cells n2 cs' y a2
                  refine ⟨t, b1, b2, VC_of_VL _ _ _ b3 fun j v hj => ?_⟩
                  obtain ⟨_, c1, c2⟩ := World.cells?_some a1
                  have hj6 : j < 6 := by rw [← c1]; exact (List.getElem?_eq_some_iff.mp hj).1
                  have c3 := c2 j hj6
                  rw [hj, add_none, add_none] at c3
                  exact ⟨cell_lt c3, c3⟩
                refine ⟨ks, by rw [k0]; exact R0_in (by omega), k1, k2, ?_, rfl⟩
                simp only [V0]
                exact ⟨_, cap, by rw [k0], by rw [k0]; exact hle, by simp [gr], by simp [Grip.isTok, gr], .inr ⟨bl, of, rfl, k3⟩⟩
          obtain ⟨ks, hk1, hk2, hk3, hk4, hk5⟩ := hkids
          refine ⟨.mk k b .l l s.data.toList m .l ks, ?_, ?_, ?_, rfl⟩
          · simp only [bigT]
            exact ⟨hL, by have : s.data.toList.length = s.size := Array.length_toList
                          rw [this]; exact R0_in (by omega), hk2⟩
          · simp only [fewT]
            exact ⟨hLl, hk1, hk3⟩
          · simp only [cellsT, VL]
            exact ⟨_, _, rfl, rfl, by simp only [V0], _, _, rfl, rfl, by simp only [V0], _, _, rfl, hO2, hV2, _, _, rfl, rfl, V0_str s, _, _, rfl, rfl, by simp only [V0], _, _, rfl, hk5, hk4, rfl⟩
termination_by fuel => fuel
decreasing_by all_goals omega
/-- A term in memory, as a statement's reading gives it. -/
def IsTerm (w : World) (v : Value) : Prop := ∃ t : T, bigT R0 t ∧ fewT R0 t ∧ V0 (old w) w (encT t) v
theorem openTerm {r : Reach} {b0 : Nat} {v : Value} {d : DataW H} {ps : List MemPlace} (hval : Value.okWide Tryz.prog w r b0 29 v) (h : DataW.Trod enc Tryz.prog w base (fun _ => true) held 29 v d ps) : IsTerm w v := by
  obtain ⟨f0, f1, f2, f3, f4, hu, _, _⟩ := und28
  obtain ⟨cs, rfl, hsz⟩ := okWide_struct hu hval
  obtain ⟨fuel, hf⟩ := h
  obtain ⟨t, h1, h2, h3, _⟩ := openT_cells fuel _ _ hf
  refine ⟨t, h1, h2, ?_⟩
  simp only [encT, V0]
  exact ⟨cs.toList, by simp, by simpa [Value.cells] using h3⟩
end
end Go.Ab

/- Rows of terms in memory, as a statement's reading gives them. No conditions. -/
namespace Go.Ab
open Go.Proofs Go.RowKit
set_option maxRecDepth 100000
def IsTerms (w : World) (a : Option Addr) (len cap : Nat) : Prop := ∃ ks : List T, ks.length = len ∧ bigK R0 ks ∧ fewK R0 ks ∧ V0 (old w) w (.sl (cellsK ks) len .loose) (.slice a len cap)
section
variable {H : Type} {enc : TypeId × Value → H} {w : World} {base : Nat} {held : Bool}
theorem openTerms {a : Option Addr} {len cap : Nat} {d : DataW H} {ps : List MemPlace} (h : DataW.Trod enc Tryz.prog w base (fun _ => true) held 22 (.slice a len cap) d ps) : IsTerms w a len cap := by
  obtain ⟨fuel, hf⟩ := h
  have hk : ∀ c5 : Value, DataW.trod enc Tryz.prog w base (fun _ => true) held fuel 22 [c5] = some (d, ps) → ∃ ks : List T, ks.length < R0 ∧ bigK R0 ks ∧ fewK R0 ks ∧ V0 (old w) w (.sl (cellsK ks) ks.length (gr .l)) c5 ∧ c5.oneCell' = true := by
    intro c5 hf
    rcases DataW.trod_slice Tryz.underlying22 hf with ⟨hc, _⟩ | ⟨a, len, cap, elems, rest, n2, hfn, hc, _, hb, hle, hm, hlen, hel, hsp, _⟩
    · simp only [List.cons.injEq, and_true] at hc
      subst hc
      refine ⟨[], R0_pos, by simp only [bigK], by simp only [fewK], ?_, rfl⟩
      simp only [V0, cellsK]
      exact ⟨none, 0, rfl, by simp, by simp [gr], by simp [Grip.isTok, gr], .inl (by simp)⟩
    · simp only [List.cons.injEq, and_true] at hc
      subst hc
      by_cases hcap : cap = 0
      · subst hcap
        have : len = 0 := by omega
        subst this
        refine ⟨[], R0_pos, by simp only [bigK], by simp only [fewK], ?_, rfl⟩
        simp only [V0, cellsK]
        exact ⟨some a, 0, rfl, by simp, by simp [gr], by simp [Grip.isTok, gr], .inl (by simp)⟩
      · have hsp := hsp rfl
        have key : ∀ i, i < cap → ∃ cs' y, w.cells? base (a.add (i * 6)) 6 = some cs' ∧ DataW.trod enc Tryz.prog w base (fun _ => true) held n2 29 cs' = some y := by
          intro i hi
          by_cases hil : i < len
          · have h1 := hel i hil
            rw [cells28] at h1
            have h2 : elems[i]? = some (elems[i]'(by omega)) := List.getElem?_eq_getElem (by omega)
            rw [h2] at h1
            obtain ⟨cs', k1, k2⟩ := Option.bind_eq_some_iff.mp h1
            exact ⟨cs', _, k1, k2⟩
          · have h1 := hsp.2 (i - len) (by omega)
            rw [cells28, show len + (i - len) = i by omega] at h1
            have h2 : rest[i - len]? = some (rest[i - len]'(by omega)) := List.getElem?_eq_getElem (by omega)
            rw [h2] at h1
            obtain ⟨cs', k1, k2⟩ := Option.bind_eq_some_iff.mp h1
            exact ⟨cs', _, k1, k2⟩
        obtain ⟨bl, of, spot⟩ := a
        have hs : spot = none := by
          obtain ⟨cs', y, k1, k2⟩ := key 0 (by omega)
          obtain ⟨_, h2, h3⟩ := World.cells?_some k1
          have h4 := h3 0 (by omega)
          have h5 : cs'[0]? = some (cs'[0]'(by omega)) := List.getElem?_eq_getElem (by omega)
          rw [h5] at h4
          simpa [Addr.add] using World.cell?_spot h4
        subst hs
        obtain ⟨ks, k0, k1, k2, k3⟩ := VC_terms (S := old w) (w := w) (b := bl) R0 len of fun i hi => by
          obtain ⟨cs', y, a1, a2⟩ := key i (by omega)
          obtain ⟨t, b1, b2, b3, b4⟩ := openT_cells n2 cs' y a2
          refine ⟨t, b1, b2, VC_of_VL _ _ _ b3 fun j v hj => ?_⟩
          obtain ⟨_, c1, c2⟩ := World.cells?_some a1
          have hj6 : j < 6 := by rw [← c1]; exact (List.getElem?_eq_some_iff.mp hj).1
          have c3 := c2 j hj6
          rw [hj, add_none, add_none] at c3
          exact ⟨cell_lt c3, c3⟩
        refine ⟨ks, by rw [k0]; exact R0_in (by omega), k1, k2, ?_, rfl⟩
        simp only [V0]
        exact ⟨_, cap, by rw [k0], by rw [k0]; exact hle, by simp [gr], by simp [Grip.isTok, gr], .inr ⟨bl, of, rfl, k3⟩⟩

  obtain ⟨ks, h1, h2, h3, h4, _⟩ := hk _ hf
  have hl : ks.length = len := by
    simp only [V0] at h4
    obtain ⟨_, _, e, _⟩ := h4
    injection e with _ e2 _
    exact e2.symm
  exact ⟨ks, hl, h2, h3, by rw [hl] at h4; exact h4⟩
end
end Go.Ab

/- Lists of terms: term.List; rows of terms that grow. Conditions: lengths in range. -/
namespace Go.Ab
open Go.Proofs
set_option maxRecDepth 100000
set_option linter.unusedSimpArgs false

theorem callQ_loose {call : FuncId → List Arg → Option Out} {f : FuncId} {vs vs' : List AV} {v : AV} {os : List (List AV)} (h0 : vs.all isTree = false) (ht : vs.all isLent = true) (e : vs.map loosen = vs') (hc : call f (vs'.map Arg.tree) = some (.tree v, os)) : callQ call f vs = some v := by
  have e2 : (vs.map fun v => Arg.tree (loosen v)) = vs'.map .tree := by rw [← e]; simp
  simp only [callQ, h0, ht, Bool.false_eq_true, if_false, if_true, e2, hc, Option.bind_some]
/-- A cell of a list. -/
def consT (h t : T) : T := .mk 4 false .n [] [] 0 .t [h, t]
def listT : List T → T → T
  | [], t => t
  | h :: r, t => consT h (listT r t)
theorem cells_cons (h t : T) : cellsT (consT h t) = consV (cellsT h) (cellsT t) := by
  simp only [consT, cellsT, cellsK, consV, List.append_nil, encL, encC, List.map_nil, List.length_nil, gr, List.length_cons, Nat.reduceAdd]
theorem chunk_K (ks : List T) (i : Nat) (t : T) (r : List T) (h : ks.drop i = t :: r) : chunk (cellsK ks) i = cellsT t := by
  rw [chunk, cellsK_drop, h]
  simp only [cellsK]
  rw [List.take_append_of_le_length (by rw [cellsT_len]; exact Nat.le_refl _), List.take_of_length_le (by rw [cellsT_len]; exact Nat.le_refl _)]
theorem listT_snoc (h : T) : ∀ (r : List T) (t : T), listT (r ++ [h]) t = listT r (consT h t)
  | [], t => rfl
  | a :: r, t => by simp only [List.cons_append, listT, listT_snoc h r t]
theorem lstN_K (ks : List T) : ∀ (n : Nat) (t : T), n ≤ ks.length → lstN (cellsK ks) n (cellsT t) = cellsT (listT (ks.take n) t)
  | 0, t, _ => rfl
  | n + 1, t, h => by
    have hd : ks.drop n = ks[n] :: ks.drop (n + 1) := List.drop_eq_getElem_cons h
    rw [lstN, chunk_K ks n _ _ hd, ← cells_cons, lstN_K ks n _ (by omega), List.take_succ_eq_append_getElem h, listT_snoc]
theorem tList_eq (n d : Nat) (ks : List T) (g : Grip) (t : T) (h : ks.length ≤ 9223372036854775807) : evalFn Tryz.prog cfg0 n (d+1) 91 [.tree (.sl (cellsK ks) ks.length g), .tree (encT t)] = some (.tree (encT (listT ks t)), [[], []]) := by
  have hp : prim0 91 [.tree (.sl (cellsK ks) ks.length g), .tree (encT t)] = some (.tree (encT (listT ks t)), [[], []]) := by
    unfold prim0
    rw [if_neg (by decide), if_pos (by decide)]
    have e := lstN_K ks ks.length t (Nat.le_refl _)
    rw [List.take_length] at e
    simp only [listP, encT]
    rw [if_pos ⟨cellsK_len ks, cellsT_len t, h⟩, e]
  have hc : cfg0.prim = prim0 := rfl
  rw [evalFn]
  simp only [hc, hp]
/-! ### Rows that grow -/
theorem by28 : decide (byOf Tryz.prog 29 ≤ 200) = true := by kernel_rfl
theorem zl28 : (zeroOf Tryz.prog 29).map List.length = some 6 := by kernel_rfl
/-- A row that is being made at one place. -/
def Ap (s : St) (d : Nat) (x : AV) (us : List T) : Prop := (us = [] ∧ x = .sl [] 0 .nil) ∨ (us ≠ [] ∧ ∃ t, x = .sl (cellsK us) us.length (.tok d t) ∧ s d = ⟨t, .tok 6⟩)
theorem Ap.push {s : St} {d : Nat} {x : AV} {us : List T} (h : Ap s d x us) (hl : us.length ≤ 1000000) (v : T) :
    ∃ x' s', appendA Tryz.prog #[22, 22] d s x (.sl (cellsT v) 1 .tight) = some (x', s') ∧ Ap s' d x' (us ++ [v]) ∧ ∀ q, q ≠ d → s' q = s q := by
  have hb := of_decide_eq_true by28
  have hk : cellsK (us ++ [v]) = cellsK us ++ cellsT v := by rw [cellsK_append]; simp only [cellsK, List.append_nil]
  have hm : ∀ s, moreA Tryz.prog 29 6 (some 22) s (.sl (cellsT v) 1 .tight) = some (cellsT v, 1) := fun s => by
    simp only [moreA, Option.map_some, tkTk, cellsT_len, Nat.one_mul, ↓reduceIte]
  have hc : (us.length + 1) * byOf Tryz.prog 29 ≤ 140737488355328 ∧ us.length + 1 ≤ 9223372036854775807 := by
    have : (us.length + 1) * byOf Tryz.prog 29 ≤ 1000001 * 200 := Nat.mul_le_mul (by omega) hb
    omega
  rcases h with ⟨rfl, rfl⟩ | ⟨_, t, rfl, hs⟩
  · refine ⟨_, upd s d ⟨(s d).t + 1, .tok 6⟩, ?_, .inr ⟨by simp, (s d).t + 1, rfl, upd_same _ _ _⟩, fun q hq => upd_ne _ _ hq⟩
    simp only [appendA, List.getElem?_toArray, List.getElem?_cons_zero, List.getElem?_cons_succ, Option.map_some, tkTk, eszT, Option.bind_some, hm, baseA, List.length_nil, Nat.zero_mul, ↓reduceIte, zl28, and_true]
    rw [if_pos (by simpa using hc)]
    simp [cellsK]
  · refine ⟨_, upd (upd s d ⟨t, .dead⟩) d ⟨t + 1, .tok 6⟩, ?_, .inr ⟨by simp, t + 1, rfl, upd_same _ _ _⟩, fun q hq => (upd_ne _ _ hq).trans (upd_ne _ _ hq)⟩
    simp only [appendA, List.getElem?_toArray, List.getElem?_cons_zero, List.getElem?_cons_succ, Option.map_some, tkTk, eszT, Option.bind_some, hm, baseA, hs, cellsK_len, and_self, ↓reduceIte, zl28, and_true]
    rw [if_pos hc]
    simp only [upd_same, List.length_append, List.length_cons, List.length_nil, Nat.zero_add, hk]
/-- The row behind it all, as a term's. -/
def kgOf (us : List T) : Gk := if us = [] then .n else .l
theorem Ap.settled {s : St} {d : Nat} {x : AV} {us : List T} (h : Ap s d x us) : Go.Ab.settled x = some (.sl (cellsK us) us.length (gr (kgOf us))) := by
  rcases h with ⟨rfl, rfl⟩ | ⟨hu, t, rfl, _⟩
  · rfl
  · simp only [Go.Ab.settled, kgOf, if_neg hu, gr]
end Go.Ab

/- Terms in their order: mathematics. Conditions: terms that may be. -/
namespace Go.Ab
open Go.Proofs
set_option maxRecDepth 100000
set_option linter.unusedSimpArgs false

end Go.Ab

/- The statement TermOrders. Conditions: limbs in range; texts in range. -/
namespace Go.Ab
open Go.Proofs
set_option maxRecDepth 100000
set_option linter.unusedSimpArgs false

mutual
theorem ht_nod : ∀ t : T, htT t ≤ nodT t
  | .mk _ _ _ _ _ _ _ ks => by have := htK_nod ks; simp only [htT, nodT]; omega
theorem htK_nod : ∀ ks : List T, htK ks ≤ nodK ks
  | [] => Nat.le_refl _
  | t :: r => by have := ht_nod t; have := htK_nod r; simp only [htK, nodK]; omega
end
end Go.Ab

/- The reference's own functions on numbers: reading, normal forms, comparing. Conditions: limbs in range, not too many. -/
namespace Go.Ab
open Go.Proofs
set_option maxRecDepth 100000
set_option linter.unusedSimpArgs false

theorem rat_eq (n d : Nat) (b : Gk) (l : List Nat) (hl : ∀ x ∈ l, x < 4294967296) (i : Int) (hi : 0 ≤ i) : evalFn Tryz.prog cfg0 n (d+1) 98 [.tree (encL b l), .tree (.int .i64 i)] = some (.tree (.int .u64 ((l.getD i.toNat 0 : Nat) : Int)), [[],[]]) := by
  rw [evalFn_go _ Tryz.func98 (by unfold Tryz.f98; rfl) (by unfold Tryz.f98; decide) (Nat.le_of_ble_eq_true (by unfold Tryz.f98; rfl)) (by kernel_rfl)]
  have hx := getD_lt l hl i.toNat
  by_cases h : i < l.length
  · have h' : i.toNat < l.length := by omega
    simp only [simB, zbo, Nat.reduceBEq, own0, ↓reduceIte, Nat.reduceEqDiff, Nat.reduceAdd, env0, List.getElem?_cons_zero, List.getElem?_cons_succ, zdv, zdw, zdx, zdy, zdz, zea, zeb, zec, ia22, ld31, zed, zee, h, hi, h', hx]
    rfl
  · have hx : l.getD i.toNat 0 = 0 := by
      rw [List.getD_eq_getElem?_getD, List.getElem?_eq_none (by omega)]; rfl
    simp only [simB, zbo, Nat.reduceBEq, own0, ↓reduceIte, Nat.reduceEqDiff, Nat.reduceAdd, env0, List.getElem?_cons_zero, List.getElem?_cons_succ, zdv, zdw, zdx, zdy, zdz, zea, zeb, zec, ia22, ld31, zed, zee, h, hx]
    rfl

theorem rat_call (n d : Nat) (b : Gk) (l : List Nat) (hl : Limbs l) (k : Nat) (D : Nat) (s : St) : callA cfg0 (evalFn Tryz.prog cfg0 n (d+1)) D s 98 [encL b l, .int .i64 (k : Int)] = some (.int .u64 ((l.getD k 0 : Nat) : Int), s) :=
  callA_Li _ _ _ _ _ _ _ _ _ (rat_eq n d b l hl k (by omega))
/-- A part of a list, from its beginning. -/
theorem slice22h (s : St) (b : Gk) (l : List Nat) (k : Nat) (h : k ≤ l.length) : ∃ b', sliceA Tryz.prog 25 s (encL b l) none (some (.int .i64 (k : Int))) none = some (encL b' (l.take k)) := by
  have hx : (encC l).length = l.length * 1 := by rw [encC_len]; omega
  simp only [sliceA, tk22, encL, esz31, Option.isSome_none, Option.isNone_some, Bool.false_eq_true, false_and, if_false, boundA, Option.bind_some, hx, if_true, Int.toNat_natCast]
  rw [if_pos (by omega)]
  simp only [Option.bind_some, Nat.zero_mul, List.drop_zero, Nat.sub_zero, Nat.mul_one, encC_take]
  have hl : (l.take k).length = k := by rw [List.length_take]; omega
  rw [hl]
  by_cases hc : (false = true ∧ l.length = k) ∨ (none = (none : Option AV) ∧ (gr b = .tight ∨ gr b = .nil) ∧ k = l.length)
  · exact ⟨.t, by simp_all [gr]⟩
  · exact ⟨.l, by simp_all [gr]⟩
def encF (v : Nat) : AV := encL .l (digs v)
theorem rnorm_eq (n d : Nat) (b : Gk) (l : List Nat) (hl : Limbs l) (hn : l.length < n) (hlen : l.length ≤ 1000000) : evalFn Tryz.prog cfg0 n (d+1) 111 [.tree (encL b l)] = some (.tree (encF (val l)), [[]]) := by
  rw [evalFn_go _ Tryz.func111 (by unfold Tryz.f111; rfl) (by unfold Tryz.f111; decide) (Nat.le_of_ble_eq_true (by unfold Tryz.f111; rfl)) (by kernel_rfl)]
  simp only [simB, zbo, Nat.reduceBEq, own0, ↓reduceIte, Nat.reduceEqDiff, Nat.reduceAdd, env0, List.getElem?_cons_zero, List.getElem?_cons_succ, zdv, zdw, zdx, zdy, zdz, zea, zeb, zec, ia22, ld31, zed, zee, st0_1, den_loop]
  refine loop_ends (X := Nat) (fun k env s => env 0 = encL b l ∧ env 3 = .int .i64 (k : Int) ∧ s = dead ∧ k ≤ l.length ∧ val (l.take k) = val l) id (fun _ => (.tree (encF (val l)), [[]])) ?_ n l.length _ _ hn ⟨rfl, rfl, rfl, Nat.le_refl _, by simp⟩
  intro k x hx ih env s ⟨h0, h3, hs, hk, hv⟩
  subst hs
  obtain ⟨b', e3⟩ := slice22h dead b l x hk
  have fin : (∀ y, x = y + 1 → l.getD y 0 ≠ 0) → encF (val l) = .sl (encC (l.take x)) (l.take x).length .loose := by
    intro hz
    have hd : digs (val l) = l.take x := by
      rw [← hv]
      refine digs_val _ (hl.take _) ?_
      intro u hu
      cases x with
      | zero => simp at hu
      | succ y =>
        have el : (l.take (y + 1)).length = y + 1 := by rw [List.length_take]; omega
        rw [List.getLast?_eq_getElem?, el, Nat.add_sub_cancel, List.getElem?_take, if_pos (Nat.lt_succ_self y)] at hu
        have := hz y rfl
        rw [List.getD_eq_getElem?_getD, hu] at this
        exact this
    rw [encF, hd]; rfl
  obtain ⟨s', p, t, ea, _⟩ := append22t 21 dead (.sl [] 0 .nil) [] (l.take x) b' (hold_nil _) (by simp only [List.length_nil, List.length_take]; omega)
  rw [List.nil_append] at ea
  have hf : finish1 (cfg0.keep 111) [Arg.tree (encL b l)].length s' (.sl (encC (l.take x)) (l.take x).length (.tok p t)) = some (.tree (.sl (encC (l.take x)) (l.take x).length .loose), s') := rfl
  by_cases hp : x = 0
  · subst hp
    have q1 : ¬ (((0 : Nat) : Int) > 0) := by omega
    simp only [simB, zbo, Nat.reduceBEq, own0, ↓reduceIte, Nat.reduceEqDiff, Nat.reduceAdd, zdv, zdw, zdx, zdy, zdz, zea, zeb, zec, ia22, ld31, zed, zee, h0, h3, q1, Option.map_none, e3, ea]
    rw [fin (by omega)]
    exact finish_tree _ _ _ _ _ _ (.sl (encC (l.take 0)) (l.take 0).length (.tok p t)) _ _ (by simp only [zfp, ↓reduceIte]) hf rfl
  · obtain ⟨y, rfl⟩ : ∃ y, x = y + 1 := ⟨x - 1, by omega⟩
    have p1 : ((y + 1 : Nat) : Int) > 0 := by omega
    have p2 : ((y + 1 : Nat) : Int) - 1 = (y : Int) := by omega
    have p3 : (y : Int) < l.length := by omega
    have p4 : y < l.length := by omega
    have p6 : (0 : Int) ≤ y := by omega
    have e1 : binA Tryz.prog .sub 3 (.int .i64 ((y + 1 : Nat) : Int)) (.int .i64 1) = some (.int .i64 (y : Int)) := by rw [i_sub _ _ _ _ (by omega) (by omega), p2]
    by_cases hz : l.getD y 0 = 0
    · have p5 : (((l.getD y 0 : Nat) : Int) == 0) = true := by rw [hz]; rfl
      simp only [simB, zbo, Nat.reduceBEq, own0, ↓reduceIte, Nat.reduceEqDiff, Nat.reduceAdd, zdv, zdw, zdx, zdy, zdz, zea, zeb, zec, ia22, ld31, zed, zee, h0, h3, p1, e1, p6, p3, Int.toNat_natCast, p4, p5]
      refine ih y _ _ (Nat.lt_succ_self _) rfl ⟨?_, ?_, rfl, by omega, ?_⟩
      · simp only [zfp, ↓reduceIte, Nat.reduceEqDiff, h0]
      · simp only [zfp, ↓reduceIte, Nat.reduceEqDiff]
      · rw [← hv, val_take_succ _ _ p4, hz, Nat.mul_zero, Nat.add_zero]
    · have p5 : (((l.getD y 0 : Nat) : Int) == 0) = false := by
        rw [beq_eq_false_iff_ne]; omega
      simp only [simB, zbo, Nat.reduceBEq, own0, ↓reduceIte, Nat.reduceEqDiff, Nat.reduceAdd, zdv, zdw, zdx, zdy, zdz, zea, zeb, zec, ia22, ld31, zed, zee, h0, h3, p1, e1, p6, p3, Int.toNat_natCast, p4, p5, e3, ea]
      rw [fin (by intro y' hy'; have : y' = y := by omega
                  subst this; exact hz)]
      exact finish_tree _ _ _ _ _ _ (.sl (encC (l.take (y + 1))) (l.take (y + 1)).length (.tok p t)) _ _ (by simp only [zfp, ↓reduceIte]) hf rfl
end Go.Ab

/- The reference's own functions on numbers: Cmp, Add, Sub. Conditions: limbs in range, not too many. -/
namespace Go.Ab
open Go.Proofs
set_option maxRecDepth 100000
set_option linter.unusedSimpArgs false

theorem rnorm_hold (n d : Nat) (s : St) (v : AV) (o : List Nat) (h : Hold s v o) (ho : Limbs o) (hn : o.length < n) (hl : o.length ≤ 1000000) (D : Nat) : ∃ s', callA cfg0 (evalFn Tryz.prog cfg0 n (d + 1)) D s 111 [v] = some (encF (val o), s') := by
  rcases h with ⟨rfl, rfl⟩ | ⟨p, t, rfl, hp⟩ | ⟨p, t, rfl, hp⟩
  · exact ⟨s, callA_L1 _ D s 111 .n [] _ (rnorm_eq n d .n [] ho hn hl)⟩
  · have := rnorm_eq n d .l o ho hn hl
    rw [show encL .l o = .sl (encC o) o.length .loose from rfl] at this
    refine ⟨s, ?_⟩
    simp [callA, argsA, argA, givesL, lendsL, givesOf, lendsOf, this, backA, resA, lin0]
  · have := rnorm_eq n d .l o ho hn hl
    rw [show encL .l o = .sl (encC o) o.length .loose from rfl] at this
    have hf : flatR (.tree (encF (val o))) = false := rfl
    refine ⟨frzAt s p, ?_⟩
    have ht : (encC o).take o.length = encC o := List.take_of_length_le (by rw [encC_len]; exact Nat.le_refl _)
    have hle : 0 + o.length * 1 ≤ (encC o).length := by rw [encC_len]; omega
    simp [callA, argsA, argA, cellsAt, hp, ht, encC_len, givesL, lendsL, givesOf, lendsOf, this, hf, backA, resA, lin0]

theorem finish_F (k : Bool) (xs : List Arg) (t : Nat) (env : Env) (s : St) (v : Nat) (os : List (List AV)) (hv : env t = encF v) (ho : outsA s 0 xs = some os) :
    finishP Tryz.prog k xs #[.tmp t] env s = some (.tree (encF v), os) := finish_L _ _ _ _ _ _ _ _ hv ho
theorem cmpZ_1 (x y : Nat) (h : x < y) : cmpZ x y = -1 := by simp only [cmpZ, h, if_true]
theorem cmpZ_2 (x y : Nat) (h : y < x) : cmpZ x y = 1 := by
  have : ¬ x < y := by omega
  simp only [cmpZ, h, this, if_true, if_false]
theorem rcmp_eq (n d : Nat) (b b' : Gk) (l m : List Nat) (hl : Limbs l) (hm : Limbs m) (hn : l.length < n) (hn' : m.length < n) (hll : l.length ≤ 1000000) (hml : m.length ≤ 1000000) :
    evalFn Tryz.prog cfg0 n (d+2) 70 [.tree (encL b l), .tree (encL b' m)] = some (.tree (.int .i64 (cmpZ (val l) (val m))), [[], []]) := by
  rw [evalFn_go _ Tryz.func70 (by unfold Tryz.f70; rfl) (by unfold Tryz.f70; decide) (Nat.le_of_ble_eq_true (by unfold Tryz.f70; rfl)) (by kernel_rfl)]
  have e0 := i_sub Tryz.prog 3 ((max l.length m.length : Nat) : Int) 1 (by omega) (by omega)
  simp only [simB, zbo, Nat.reduceBEq, own0, ↓reduceIte, Nat.reduceEqDiff, Nat.reduceAdd, env0, List.getElem?_cons_zero, List.getElem?_cons_succ, zdv, zdw, zdx, zdy, zdz, zea, zeb, zec, ia22, ld31, zed, zee, st0_2, max_eq, e0, den_loop]
  refine loop_ends (X := Nat) (fun k env s => env 0 = encL b l ∧ env 1 = encL b' m ∧ env 5 = .int .i64 ((k : Int) - 1) ∧ s = dead ∧ k ≤ max l.length m.length ∧ Alike l m k) id (fun _ => (.tree (.int .i64 (cmpZ (val l) (val m))), [[], []])) ?_ n (max l.length m.length) _ _ (by simp only [id]; omega) ⟨rfl, rfl, rfl, rfl, Nat.le_refl _, alike_top _ _ _ (by omega) (by omega)⟩
  intro k x hx ih env s ⟨h0, h1, h5, hs, hk, hv⟩
  subst hs
  by_cases hp : x = 0
  · subst hp
    have q1 : ¬ (((0 : Nat) : Int) - 1 ≥ 0) := by omega
    simp only [simB, zbo, Nat.reduceBEq, own0, ↓reduceIte, Nat.reduceEqDiff, Nat.reduceAdd, zdv, zdw, zdx, zdy, zdz, zea, zeb, zec, ia22, ld31, zed, zee, h0, h1, h5, q1]
    rw [alike_0 _ _ hv, cmpZ_self]
    exact finish_tree _ _ _ _ _ _ (.int .i64 0) _ _ (by simp only [zfp, ↓reduceIte]) rfl rfl
  · obtain ⟨y, rfl⟩ : ∃ y, x = y + 1 := ⟨x - 1, by omega⟩
    have p2 : ((y + 1 : Nat) : Int) - 1 = (y : Int) := by omega
    rw [p2] at h5
    have p6 : (y : Int) ≥ 0 := by omega
    have e1 := i_sub Tryz.prog 3 (y : Int) 1 (by omega) (by omega)
    have c1 := rat_call n d b l hl y
    have c2 := rat_call n d b' m hm y
    by_cases hz : l.getD y 0 < m.getD y 0
    · have p5 : ((l.getD y 0 : Nat) : Int) < ((m.getD y 0 : Nat) : Int) := by omega
      simp only [simB, zbo, Nat.reduceBEq, own0, ↓reduceIte, Nat.reduceEqDiff, Nat.reduceAdd, zdv, zdw, zdx, zdy, zdz, zea, zeb, zec, ia22, ld31, zed, zee, h0, h1, h5, p6, c1, c2, e1, p5]
      rw [alike_ne _ _ hl hm _ hv (by omega), cmpZ_1 _ _ hz]
      exact finish_tree _ _ _ _ _ _ (.int .i64 (-1)) _ _ (by simp only [zfp, ↓reduceIte, Nat.reduceEqDiff]) rfl rfl
    · have p5 : ¬ ((l.getD y 0 : Nat) : Int) < ((m.getD y 0 : Nat) : Int) := by omega
      by_cases hy : m.getD y 0 < l.getD y 0
      · have p7 : ((l.getD y 0 : Nat) : Int) > ((m.getD y 0 : Nat) : Int) := by omega
        simp only [simB, zbo, Nat.reduceBEq, own0, ↓reduceIte, Nat.reduceEqDiff, Nat.reduceAdd, zdv, zdw, zdx, zdy, zdz, zea, zeb, zec, ia22, ld31, zed, zee, h0, h1, h5, p6, c1, c2, e1, p5, p7]
        rw [alike_ne _ _ hl hm _ hv (by omega), cmpZ_2 _ _ hy]
        exact finish_tree _ _ _ _ _ _ (.int .i64 1) _ _ (by simp only [zfp, ↓reduceIte, Nat.reduceEqDiff]) rfl rfl
      · have p7 : ¬ ((l.getD y 0 : Nat) : Int) > ((m.getD y 0 : Nat) : Int) := by omega
        simp only [simB, zbo, Nat.reduceBEq, own0, ↓reduceIte, Nat.reduceEqDiff, Nat.reduceAdd, zdv, zdw, zdx, zdy, zdz, zea, zeb, zec, ia22, ld31, zed, zee, h0, h1, h5, p6, c1, c2, e1, p5, p7]
        refine ih y _ _ (Nat.lt_succ_self _) rfl ⟨?_, ?_, ?_, rfl, by omega, alike_down _ _ _ hv (by omega)⟩
        · simp only [zfp, ↓reduceIte, Nat.reduceEqDiff, h0]
        · simp only [zfp, ↓reduceIte, Nat.reduceEqDiff, h1]
        · simp only [zfp, ↓reduceIte, Nat.reduceEqDiff]
end Go.Ab

/- The reference's own functions on numbers: Add, Sub. Conditions: limbs in range, not too many. -/
namespace Go.Ab
open Go.Proofs
set_option maxRecDepth 100000
set_option linter.unusedSimpArgs false

theorem radd_eq (n d : Nat) (b b' : Gk) (l m : List Nat) (hl : Limbs l) (hm : Limbs m) (hn : l.length + 2 < n) (hn' : m.length + 2 < n) (hll : l.length ≤ 100000) (hml : m.length ≤ 100000) :
    evalFn Tryz.prog cfg0 n (d+2) 109 [.tree (encL b l), .tree (encL b' m)] = some (.tree (encF (val l + val m)), [[], []]) := by
  rw [evalFn_go _ Tryz.func109 (by unfold Tryz.f109; rfl) (by unfold Tryz.f109; decide) (Nat.le_of_ble_eq_true (by unfold Tryz.f109; rfl)) (by kernel_rfl)]
  have e0 := i_add Tryz.prog 3 ((max l.length m.length : Nat) : Int) 1 (by omega) (by omega)
  rw [show ((max l.length m.length : Nat) : Int) + 1 = ((max l.length m.length + 1 : Nat) : Int) by omega] at e0
  simp only [simB, zbo, Nat.reduceBEq, own0, ↓reduceIte, Nat.reduceEqDiff, Nat.reduceAdd, env0, List.getElem?_cons_zero, List.getElem?_cons_succ, zdv, zdw, zdx, zdy, zdz, zea, zeb, zec, ia22, ld31, zed, zee, st0_2, den_loop]
  have hmx := max_eq l.length m.length
  generalize hM : max l.length m.length = M at *
  refine loop_ends (X := Nat × Nat × List Nat) (fun x env s => env 0 = encL b l ∧ env 1 = encL b' m ∧ env 7 = .int .i64 (x.1 : Int) ∧ env 6 = .int .u64 (x.2.1 : Int) ∧ Hold s (env 5) x.2.2 ∧ x.1 ≤ M + 1 ∧ x.2.1 ≤ 1 ∧ x.2.2.length = x.1 ∧ Limbs x.2.2 ∧ val x.2.2 + B ^ x.1 * x.2.1 = val (l.take x.1) + val (m.take x.1)) (fun x => M + 1 - x.1) (fun _ => (.tree (encF (val l + val m)), [[], []])) ?_ n (0, 0, []) _ _ (by simp only; omega) ⟨rfl, rfl, rfl, rfl, hold_nil _, by simp, by simp, rfl, limbs_nil, by simp [val]⟩
  intro k ⟨i, c, o⟩ hx ih env s ⟨h0, h1, h7, h6, h5, hi, hc, hol, hoL, hv⟩
  simp only at h0 h1 h7 h6 h5 hi hc hol hoL hv hx
  by_cases hp : i = M + 1
  · have q1 : ¬ ((i : Int) < ((M + 1 : Nat) : Int)) := by omega
    obtain ⟨s9, e9⟩ := rnorm_hold n d s (env 5) o h5 hoL (by omega) (by omega) 35
    simp only [simB, zbo, Nat.reduceBEq, own0, ↓reduceIte, Nat.reduceEqDiff, Nat.reduceAdd, zdv, zdw, zdx, zdy, zdz, zea, zeb, zec, ia22, ld31, zed, zee, h0, h1, h7, hmx, e0, q1, e9]
    rw [add_end l m o i c hl hm (by omega) (by omega) hv]
    exact finish_F _ _ _ _ _ _ _ (by simp only [zfp, ↓reduceIte]) rfl
  · have q1 : (i : Int) < ((M + 1 : Nat) : Int) := by omega
    have c1 := rat_call n d b l hl i
    have c2 := rat_call n d b' m hm i
    have hx1 := getD_lt l hl i
    have hx2 := getD_lt m hm i
    have e1 := u_add Tryz.prog 96 c (l.getD i 0)
    rw [Nat.mod_eq_of_lt (by omega)] at e1
    have e2 := u_add Tryz.prog 96 (c + l.getD i 0) (m.getD i 0)
    rw [Nat.mod_eq_of_lt (by omega), Nat.add_assoc] at e2
    have e3 := u_shr Tryz.prog 96 (c + (l.getD i 0 + m.getD i 0)) .u64 32 (by decide) (by decide)
    rw [show (2 : Nat) ^ (32 : Int).toNat = 4294967296 from rfl] at e3
    have e4 := i_add Tryz.prog 3 (i : Int) 1 (by omega) (by omega)
    have hlim : (c + (l.getD i 0 + m.getD i 0)) % 4294967296 < B := Nat.mod_lt _ (by decide)
    obtain ⟨v', s', ea, hh⟩ := append22 31 s (env 5) o [(c + (l.getD i 0 + m.getD i 0)) % 4294967296] .t h5 (by simp only [List.length_cons, List.length_nil]; omega)
    rw [show encL .t [(c + (l.getD i 0 + m.getD i 0)) % 4294967296] = .sl [.int .u32 (((c + (l.getD i 0 + m.getD i 0)) % 4294967296 : Nat) : Int)] 1 .tight from rfl] at ea
    simp only [simB, zbo, Nat.reduceBEq, own0, ↓reduceIte, Nat.reduceEqDiff, Nat.reduceAdd, zdv, zdw, zdx, zdy, zdz, zea, zeb, zec, ia22, ld31, zed, zee, h0, h1, h7, h6, hmx, e0, q1, c1, c2, e1, e2, e3, e4, opA_one, one22_int, ea]
    refine ih (i + 1, (c + (l.getD i 0 + m.getD i 0)) / 4294967296, o ++ [(c + (l.getD i 0 + m.getD i 0)) % 4294967296]) _ _ (by simp only; omega) rfl ⟨?_, ?_, ?_, ?_, ?_, ?_, ?_, ?_, ?_, ?_⟩
    · simp only [zfp, ↓reduceIte, Nat.reduceEqDiff, h0]
    · simp only [zfp, ↓reduceIte, Nat.reduceEqDiff, h1]
    · simp only [zfp, ↓reduceIte, Nat.reduceEqDiff]; rfl
    · simp only [zfp, ↓reduceIte, Nat.reduceEqDiff]
    · simp only [zfp, ↓reduceIte, Nat.reduceEqDiff]; exact hh
    · simp only; omega
    · simp only; omega
    · simp only [List.length_append, List.length_cons, List.length_nil]; omega
    · exact hoL.app (limbs_one hlim)
    · exact add_step l m o i c hol hv
end Go.Ab

/- The reference's Sub. Conditions: limbs in range, not too many. -/
namespace Go.Ab
open Go.Proofs
set_option maxRecDepth 100000
set_option linter.unusedSimpArgs false

theorem val_take_small (b : List Nat) (hb : Limbs b) (k : Nat) (h : val b < B ^ k) : val (b.take k) = val b := by
  have h1 : val b = val (b.take k) + B ^ (b.take k).length * val (b.drop k) := by rw [← val_app, List.take_append_drop]
  rw [val_drop b hb k, Nat.div_eq_of_lt h, Nat.mul_zero, Nat.add_zero] at h1
  exact h1.symm
theorem rsub_end (a b o : List Nat) (c : Nat) (ha : Limbs a) (hb : Limbs b) (ho : Limbs o) (hi : o.length = a.length) (hle : val b ≤ val a) (h : val o + val (b.take a.length) = val (a.take a.length) + B ^ a.length * c) : val o = val a - val b := by
  have h0 := val_lt a ha
  rw [List.take_length, val_take_small b hb _ (by omega)] at h
  have h1 := val_lt o ho
  rw [hi] at h1
  rcases Nat.eq_zero_or_pos c with rfl | hc
  · rw [Nat.mul_zero, Nat.add_zero] at h; omega
  · exfalso
    have : B ^ a.length * 1 ≤ B ^ a.length * c := Nat.mul_le_mul_left _ hc
    omega
/-- A difference as the reference gives it. -/
def encS (x y : Nat) : AV := if x < y then .sl [] 0 .nil else encF (x - y)
theorem rcmp_call (n d : Nat) (b b' : Gk) (l m : List Nat) (hl : Limbs l) (hm : Limbs m) (hn : l.length < n) (hn' : m.length < n) (hll : l.length ≤ 1000000) (hml : m.length ≤ 1000000) (D : Nat) (s : St) :
    callA cfg0 (evalFn Tryz.prog cfg0 n (d+2)) D s 70 [encL b l, encL b' m] = some (.int .i64 (cmpZ (val l) (val m)), s) :=
  callA_L2 _ _ _ _ _ _ _ _ _ (rcmp_eq n d b b' l m hl hm hn hn' hll hml)
theorem rsub_eq (n d : Nat) (b b' : Gk) (l m : List Nat) (hl : Limbs l) (hm : Limbs m) (hn : l.length + 2 < n) (hn' : m.length + 2 < n) (hll : l.length ≤ 100000) (hml : m.length ≤ 100000) :
    evalFn Tryz.prog cfg0 n (d+3) 110 [.tree (encL b l), .tree (encL b' m)] = some (.tree (encS (val l) (val m)), [[], []]) := by
  rw [evalFn_go _ Tryz.func110 (by unfold Tryz.f110; rfl) (by unfold Tryz.f110; decide) (Nat.le_of_ble_eq_true (by unfold Tryz.f110; rfl)) (by kernel_rfl)]
  have c0 := rcmp_call n d b b' l m hl hm (by omega) (by omega) (by omega) (by omega)
  by_cases hlt : val l < val m
  · have z1 : cmpZ (val l) (val m) < 0 := (cmpZ_lt _ _).mpr hlt
    simp only [simB, zbo, Nat.reduceBEq, own0, ↓reduceIte, Nat.reduceEqDiff, Nat.reduceAdd, env0, List.getElem?_cons_zero, List.getElem?_cons_succ, zdv, zdw, zdx, zdy, zdz, zea, zeb, zec, ia22, ld31, zed, zee, c0, z1]
    rw [encS, if_pos hlt]
    exact finish_tree _ _ _ _ _ _ (.sl [] 0 .nil) _ _ (by simp only [zfp, ↓reduceIte]) rfl rfl
  have z1 : ¬ cmpZ (val l) (val m) < 0 := fun h => hlt ((cmpZ_lt _ _).mp h)
  rw [encS, if_neg hlt]
  simp only [simB, zbo, Nat.reduceBEq, own0, ↓reduceIte, Nat.reduceEqDiff, Nat.reduceAdd, env0, List.getElem?_cons_zero, List.getElem?_cons_succ, zdv, zdw, zdx, zdy, zdz, zea, zeb, zec, ia22, ld31, zed, zee, st0_2, c0, z1, den_loop]
  refine loop_ends (X := Nat × Nat × List Nat) (fun x env s => env 0 = encL b l ∧ env 1 = encL b' m ∧ env 7 = .int .i64 (x.1 : Int) ∧ env 6 = .int .u64 (x.2.1 : Int) ∧ Hold s (env 5) x.2.2 ∧ x.1 ≤ l.length ∧ x.2.1 ≤ 1 ∧ x.2.2.length = x.1 ∧ Limbs x.2.2 ∧ val x.2.2 + val (m.take x.1) = val (l.take x.1) + B ^ x.1 * x.2.1) (fun x => l.length - x.1) (fun _ => (.tree (encF (val l - val m)), [[], []])) ?_ n (0, 0, []) _ _ (by simp only; omega) ⟨rfl, rfl, rfl, rfl, hold_nil _, by simp, by simp, rfl, limbs_nil, by simp [val]⟩
  intro k ⟨i, c, o⟩ hx ih env s ⟨h0, h1, h7, h6, h5, hi, hc, hol, hoL, hv⟩
  simp only at h0 h1 h7 h6 h5 hi hc hol hoL hv hx
  by_cases hp : i = l.length
  · subst hp
    have q1 : ¬ ((l.length : Int) < (l.length : Int)) := by omega
    obtain ⟨s9, e9⟩ := rnorm_hold n (d + 1) s (env 5) o h5 hoL (by omega) (by omega) 36
    simp only [simB, zbo, Nat.reduceBEq, own0, ↓reduceIte, Nat.reduceEqDiff, Nat.reduceAdd, zdv, zdw, zdx, zdy, zdz, zea, zeb, zec, ia22, ld31, zed, zee, h0, h1, h7, q1, e9]
    rw [rsub_end l m o c hl hm hoL hol (by omega) hv]
    exact finish_F _ _ _ _ _ _ _ (by simp only [zfp, ↓reduceIte]) rfl
  · have q1 : (i : Int) < (l.length : Int) := by omega
    have c1 := rat_call n (d + 1) b l hl i
    have c2 := rat_call n (d + 1) b' m hm i
    have hx1 := getD_lt l hl i
    have hx2 := getD_lt m hm i
    have hst := sub_step l m o i c
    generalize l.getD i 0 = x at *
    generalize m.getD i 0 = y at *
    have e1 := u_sub Tryz.prog 96 x y (by omega)
    have e2 := u_sub Tryz.prog 96 ((x + (18446744073709551616 - y)) % 18446744073709551616) c (by omega)
    obtain ⟨u, hu⟩ : ∃ u, ((x + (18446744073709551616 - y)) % 18446744073709551616 + (18446744073709551616 - c)) % 18446744073709551616 = u := ⟨_, rfl⟩
    rw [hu] at e2
    have e3 := u_shr Tryz.prog 96 u .u64 63 (by decide) (by decide)
    rw [show (2 : Nat) ^ (63 : Int).toNat = 9223372036854775808 from rfl] at e3
    have e4 := i_add Tryz.prog 3 (i : Int) 1 (by omega) (by omega)
    have hlim : u % 4294967296 < B := Nat.mod_lt _ (by decide)
    obtain ⟨v', s', ea, hh⟩ := append22 32 s (env 5) o [u % 4294967296] .t h5 (by simp only [List.length_cons, List.length_nil]; omega)
    rw [show encL .t [u % 4294967296] = .sl [.int .u32 ((u % 4294967296 : Nat) : Int)] 1 .tight from rfl] at ea
    simp only [simB, zbo, Nat.reduceBEq, own0, ↓reduceIte, Nat.reduceEqDiff, Nat.reduceAdd, zdv, zdw, zdx, zdy, zdz, zea, zeb, zec, ia22, ld31, zed, zee, h0, h1, h7, h6, q1, c1, c2, e1, e2, e3, e4, opA_one, one22_int, ea]
    refine ih (i + 1, u / 9223372036854775808, o ++ [u % 4294967296]) _ _ (by simp only; omega) rfl ⟨?_, ?_, ?_, ?_, ?_, ?_, ?_, ?_, ?_, ?_⟩
    · simp only [zfp, ↓reduceIte, Nat.reduceEqDiff, h0]
    · simp only [zfp, ↓reduceIte, Nat.reduceEqDiff, h1]
    · simp only [zfp, ↓reduceIte, Nat.reduceEqDiff]; rfl
    · simp only [zfp, ↓reduceIte, Nat.reduceEqDiff]
    · simp only [zfp, ↓reduceIte, Nat.reduceEqDiff]; exact hh
    · simp only; omega
    · simp only; omega
    · simp only [List.length_append, List.length_cons, List.length_nil]; omega
    · exact hoL.app (limbs_one hlim)
    · exact hst _ _ hol hv (borrow x y c u hx1 hx2 hc hu)
end Go.Ab

/- The reference's Mul. Conditions: limbs in range, not too many. -/
namespace Go.Ab
open Go.Proofs
set_option maxRecDepth 100000
set_option linter.unusedSimpArgs false

theorem isTree_encL (b : Gk) (l : List Nat) : isTree (encL b l) = true := by cases b <;> rfl
theorem rat_callq (n d : Nat) (b : Gk) (l : List Nat) (hl : Limbs l) (k : Nat) : callQ (evalFn Tryz.prog cfg0 n (d+1)) 98 [encL b l, .int .i64 (k : Int)] = some (.int .u64 ((l.getD k 0 : Nat) : Int)) := by
  have h := rat_eq n d b l hl k (by omega)
  rw [Int.toNat_natCast] at h
  have e : ([encL b l, AV.int .i64 (k : Int)]).all isTree = true := by simp [isTree_encL]; rfl
  rw [callQ, if_pos e]
  simp only [List.map_cons, List.map_nil, h, Option.bind_some]
theorem rmul_end (a b o o' : List Nat) (ha : Limbs a) (hb : Limbs b) (i c x : Nat) (hx : x = a.getD i 0) (ho : val o = val (a.take i) * val b) (h : val o' + B ^ (i + (b.length + 1)) * c = val o + B ^ i * (x * val (b.take (b.length + 1)))) : val o' = val (a.take (i + 1)) * val b := by
  have e : val o + B ^ i * (x * val (b.take (b.length + 1))) = val (a.take (i + 1)) * val b := by
    rw [List.take_of_length_le (by omega), ho, val_take_succ', Nat.add_mul, hx, Nat.mul_assoc]
  rw [e] at h
  have h1 := mul_lt a b ha hb (i + 1)
  rw [show i + 1 + b.length = i + (b.length + 1) by omega] at h1
  rcases Nat.eq_zero_or_pos c with rfl | hc
  · rw [Nat.mul_zero, Nat.add_zero] at h; exact h
  · exfalso
    have : B ^ (i + (b.length + 1)) * 1 ≤ B ^ (i + (b.length + 1)) * c := Nat.mul_le_mul_left _ hc
    omega

theorem rmul_eq (n d : Nat) (b b' : Gk) (l m : List Nat) (hl : Limbs l) (hm : Limbs m) (hn : l.length + m.length + 3 < n) (hll : l.length ≤ 100000) (hml : m.length ≤ 100000) :
    evalFn Tryz.prog cfg0 n (d+2) 83 [.tree (encL b l), .tree (encL b' m)] = some (.tree (encF (val l * val m)), [[], []]) := by
  rw [evalFn_go _ Tryz.func83 (by unfold Tryz.f83; rfl) (by unfold Tryz.f83; decide) (Nat.le_of_ble_eq_true (by unfold Tryz.f83; rfl)) (by kernel_rfl)]
  have e1 := i_add Tryz.prog 3 (l.length : Int) (m.length : Int) (by omega) (by omega)
  have e1' := i_add Tryz.prog 3 ((l.length : Int) + (m.length : Int)) 1 (by omega) (by omega)
  have e2 := make22 15 dead ((l.length : Int) + (m.length : Int) + 1) (by omega) (by omega)
  rw [show ((l.length : Int) + (m.length : Int) + 1).toNat = l.length + m.length + 1 by omega] at e2
  have e3 : (dead 15).t + 1 = 1 := rfl
  simp only [simB, zbo, Nat.reduceBEq, own0, ↓reduceIte, Nat.reduceEqDiff, Nat.reduceAdd, env0, List.getElem?_cons_zero, List.getElem?_cons_succ, zdv, zdw, zdx, zdy, zdz, zea, zeb, zec, ia22, ld31, zed, zee, st0_2, e1, e1', e2, e3, den_loop]
  refine loop_ends (X := Nat × List Nat) (fun x env s => env 0 = encL b l ∧ env 1 = encL b' m ∧ env 5 = .own 15 1 0 (l.length + m.length + 1) 1 ∧ env 6 = .int .i64 (x.1 : Int) ∧ s 15 = ⟨1, .buf (encC x.2)⟩ ∧ x.1 ≤ l.length ∧ x.2.length = l.length + m.length + 1 ∧ Limbs x.2 ∧ val x.2 = val (l.take x.1) * val m) (fun x => l.length - x.1) (fun _ => (.tree (encF (val l * val m)), [[], []])) ?_ n (0, List.replicate (l.length + m.length + 1) 0) _ _ (by simp only; omega) ⟨rfl, rfl, rfl, rfl, rfl, by simp, by simp, ?_, by simp [val, val_rep]⟩
  rotate_left
  · intro x hx; rw [List.eq_of_mem_replicate hx]; decide
  intro k' ⟨i, o⟩ hx ih env s ⟨h0, h1, h5, h6, hs, hi, hol, hoL, hv⟩
  simp only at h0 h1 h5 h6 hs hi hol hoL hv hx
  by_cases hp : i = l.length
  · subst hp
    have q1 : ¬ ((l.length : Int) < (l.length : Int)) := by omega
    obtain ⟨s9, e9⟩ := rnorm_hold n d s (.own 15 1 0 (l.length + m.length + 1) 1) o (.inr (.inr ⟨15, 1, by rw [hol], hs⟩)) hoL (by omega) (by omega) 55
    simp only [simB, zbo, Nat.reduceBEq, own0, ↓reduceIte, Nat.reduceEqDiff, Nat.reduceAdd, zdv, zdw, zdx, zdy, zdz, zea, zeb, zec, ia22, ld31, zed, zee, h0, h1, h5, h6, q1, e9]
    rw [hv, List.take_length]
    exact finish_F _ _ _ _ _ _ _ (by simp only [zfp, ↓reduceIte]) rfl
  have q1 : (i : Int) < (l.length : Int) := by omega
  have hx1 := getD_lt l hl i
  have f4 := i_add Tryz.prog 3 (i : Int) 1 (by omega) (by omega)
  have c1 := rat_callq n d b l hl i
  obtain ⟨x, hxe⟩ : ∃ x, x = l.getD i 0 := ⟨_, rfl⟩
  rw [← hxe] at hx1 c1
  simp only [simB, zbo, Nat.reduceBEq, own0, ↓reduceIte, Nat.reduceEqDiff, Nat.reduceAdd, zdv, zdw, zdx, zdy, zdz, zea, zeb, zec, ia22, ld31, zed, zee, h0, h1, h5, h6, q1, den_loop]
  refine loop_ends (X := Nat × Nat × List Nat) (fun y env s => env 0 = encL b l ∧ env 1 = encL b' m ∧ env 5 = .own 15 1 0 (l.length + m.length + 1) 1 ∧ env 6 = .int .i64 (i : Int) ∧ env 8 = .int .i64 (y.1 : Int) ∧ env 7 = .int .u64 (y.2.1 : Int) ∧ s 15 = ⟨1, .buf (encC y.2.2)⟩ ∧ y.1 ≤ m.length + 1 ∧ y.2.1 < 4294967296 ∧ y.2.2.length = l.length + m.length + 1 ∧ Limbs y.2.2 ∧ val y.2.2 + B ^ (i + y.1) * y.2.1 = val o + B ^ i * (x * val (m.take y.1))) (fun y => m.length + 1 - y.1) (fun _ => (.tree (encF (val l * val m)), [[], []])) ?_ n (0, 0, o) _ _ (by simp only; omega) ⟨?_, ?_, ?_, ?_, rfl, rfl, hs, by simp, by simp, hol, hoL, by simp [val]⟩
  rotate_left
  · simp only [zfp, ↓reduceIte, Nat.reduceEqDiff, h0]
  · simp only [zfp, ↓reduceIte, Nat.reduceEqDiff, h1]
  · simp only [zfp, ↓reduceIte, Nat.reduceEqDiff, h5]
  · simp only [zfp, ↓reduceIte, Nat.reduceEqDiff, h6]
  clear h0 h1 h5 h6 hs
  intro k2 ⟨k, c, o'⟩ hx' ih' env s ⟨h0, h1, h5, h6, h8, h7, hs, hk, hc, hol', hoL', hv'⟩
  simp only at h0 h1 h5 h6 h8 h7 hs hk hc hol' hoL' hv' hx'
  by_cases hp' : k = m.length + 1
  · subst hp'
    have r1 : ¬ (((m.length + 1 : Nat) : Int) ≤ (m.length : Int)) := by omega
    simp only [simB, zbo, Nat.reduceBEq, own0, ↓reduceIte, Nat.reduceEqDiff, Nat.reduceAdd, zdv, zdw, zdx, zdy, zdz, zea, zeb, zec, ia22, ld31, zed, zee, h0, h1, h5, h6, h8, h7, r1, f4]
    refine ih (i + 1, o') _ _ (by simp only; omega) rfl ⟨?_, ?_, ?_, ?_, hs, ?_, hol', hoL', ?_⟩
    · simp only [zfp, ↓reduceIte, Nat.reduceEqDiff, h0]
    · simp only [zfp, ↓reduceIte, Nat.reduceEqDiff, h1]
    · simp only [zfp, ↓reduceIte, Nat.reduceEqDiff, h5]
    · simp only [zfp, ↓reduceIte, Nat.reduceEqDiff]; rfl
    · simp only; omega
    · exact rmul_end l m o o' hl hm i c x hxe hv hv'
  · have r1 : (k : Int) ≤ (m.length : Int) := by omega
    have hy1 := getD_lt m hm k
    have hw1 := getD_lt o' hoL' (i + k)
    have hst := mul_step l m o o' i k c x (by omega) hv'
    obtain ⟨b1, b2, b3⟩ := mul_big x (m.getD k 0) c (o'.getD (i + k) 0) hx1 hy1 hc hw1
    have f5 := i_add Tryz.prog 3 (i : Int) (k : Int) (by omega) (by omega)
    have f6 := i_add Tryz.prog 3 (k : Int) 1 (by omega) (by omega)
    have g1 := ia_own s 15 1 _ (l.length + m.length + 1) .i64 ((i : Int) + (k : Int)) hs (by omega) (by omega)
    rw [show ((i : Int) + (k : Int)).toNat = i + k by omega] at g1
    have g3 := ld_own s 15 1 o' (i + k) hs (by omega)
    have g4 := zed s (o'.getD (i + k) 0) hw1
    have c2 := rat_callq n d b' m hm k
    have u1 := u_mul Tryz.prog 96 x (m.getD k 0)
    rw [Nat.mod_eq_of_lt b1] at u1
    have u2 := u_add Tryz.prog 96 c (o'.getD (i + k) 0)
    rw [Nat.mod_eq_of_lt (by omega)] at u2
    have u3 := u_add Tryz.prog 96 (c + o'.getD (i + k) 0) (x * m.getD k 0)
    rw [Nat.mod_eq_of_lt (by omega), show c + o'.getD (i + k) 0 + x * m.getD k 0 = c + (x * m.getD k 0 + o'.getD (i + k) 0) by omega] at u3
    generalize c + (x * m.getD k 0 + o'.getD (i + k) 0) = S at *
    have u4 := u_shr Tryz.prog 96 S .u64 32 (by decide) (by decide)
    rw [show (2 : Nat) ^ (32 : Int).toNat = 4294967296 from rfl] at u4
    have g2 := st31 s 15 1 _ (i + k) (S % 4294967296) hs (by omega)
    simp only [simB, zbo, Nat.reduceBEq, own0, ↓reduceIte, Nat.reduceEqDiff, Nat.reduceAdd, zdv, zdw, zdx, zdy, zdz, zea, zeb, zec, ia22, ld31, zed, zee, h0, h1, h5, h6, h8, h7, r1, f5, f6, g1, g2, g3, g4, c1, c2, u1, u2, u3, u4]
    refine ih' (k + 1, S / 4294967296, o'.set (i + k) (S % 4294967296)) _ _ (by simp only; omega) rfl ⟨?_, ?_, ?_, ?_, ?_, ?_, ?_, ?_, ?_, ?_, ?_, ?_⟩
    · simp only [zfp, ↓reduceIte, Nat.reduceEqDiff, h0]
    · simp only [zfp, ↓reduceIte, Nat.reduceEqDiff, h1]
    · simp only [zfp, ↓reduceIte, Nat.reduceEqDiff, h5]
    · simp only [zfp, ↓reduceIte, Nat.reduceEqDiff, h6]
    · simp only [zfp, ↓reduceIte, Nat.reduceEqDiff]; rfl
    · simp only [zfp, ↓reduceIte, Nat.reduceEqDiff]
    · rw [upd_self]
    · simp only; omega
    · simp only; omega
    · simp only [List.length_set]; exact hol'
    · exact limbs_set _ hoL' _ _ (Nat.mod_lt _ (by decide))
    · exact hst
end Go.Ab

/- The reference's Shr. Conditions: limbs in range, not too many. -/
namespace Go.Ab
open Go.Proofs
set_option maxRecDepth 100000
set_option linter.unusedSimpArgs false

theorem tk42 : tkOf Tryz.prog 97 = .int .u64 := by kernel_rfl
theorem conv3_42 (s : St) (x : Nat) (h : x < 4294967296) : convA Tryz.prog 3 97 s (.int .i64 (x : Int)) = some (.int .u64 (x : Int)) := by
  simp only [convA, tk3, tk42]
  rw [u64_wrap, Nat.mod_eq_of_lt (by omega)]
theorem getD_drop (l : List Nat) (w i : Nat) : (l.drop w).getD i 0 = l.getD (w + i) 0 := by
  rw [List.getD_eq_getElem?_getD, List.getD_eq_getElem?_getD, List.getElem?_drop]
theorem take_next (L : List Nat) (i : Nat) (h : i < L.length) : L.take (i + 1) = L.take i ++ [L.getD i 0] := by
  rw [List.take_succ_eq_append_getElem h, List.getD_eq_getElem?_getD, List.getElem?_eq_getElem h]; rfl
theorem rshr_eq (n d : Nat) (b : Gk) (l : List Nat) (z : Int) (hl : Limbs l) (hn : l.length + 2 < n) (hll : l.length ≤ 100000) (hz : z ≤ 9223372036854775807) :
    evalFn Tryz.prog cfg0 n (d+2) 117 [.tree (encL b l), .tree (.int .i64 z)] = some (.tree (encF (val l / 2 ^ z.toNat)), [[], []]) := by
  rw [evalFn_go _ Tryz.func117 (by unfold Tryz.f117; rfl) (by unfold Tryz.f117; decide) (Nat.le_of_ble_eq_true (by unfold Tryz.f117; rfl)) (by kernel_rfl)]
  have a2 : foldA max2A (.int .i64 z) [.int .i64 0] = some (.int .i64 ((z.toNat : Nat) : Int)) := by
    simp only [foldA, max2A, Option.bind_some]
    congr 2
    split <;> omega
  have hk : z.toNat ≤ 9223372036854775807 := by omega
  generalize z.toNat = k at *
  have e1 := i_quo Tryz.prog 3 k 32 (by decide) hk
  have e2 := i_rem Tryz.prog 3 k 32 (by decide)
  rw [show ((32 : Nat) : Int) = 32 from rfl] at e1 e2
  have hend := shr_end l hl k
  have hr : k % 32 < 32 := by omega
  have hwk : k / 32 ≤ 9223372036854775807 / 32 := Nat.div_le_div_right hk
  generalize k / 32 = w at *
  generalize k % 32 = r at *
  have e9 := conv3_42 dead r (by omega)
  have e10 : ∀ s, convA Tryz.prog 3 97 s (.int .i64 (r : Int)) = some (.int .u64 (r : Int)) := fun s => conv3_42 s r (by omega)
  have hLl := shrL_len r (l.drop w)
  rw [List.length_drop] at hLl
  have hLL := shrL_limbs r (l.drop w)
  have hget := shrL_get r (l.drop w)
  obtain ⟨L, hL⟩ : ∃ L, L = shrL r (l.drop w) := ⟨_, rfl⟩
  rw [← hL] at hend hLl hLL hget
  simp only [simB, zbo, Nat.reduceBEq, own0, ↓reduceIte, Nat.reduceEqDiff, Nat.reduceAdd, env0, List.getElem?_cons_zero, List.getElem?_cons_succ, zdv, zdw, zdx, zdy, zdz, zea, zeb, zec, ia22, ld31, zed, zee, st0_2, a2, e1, den_loop]
  refine loop_ends (X := Nat) (fun i env s => env 5 = .int .i64 (k : Int) ∧ env 0 = encL b l ∧ env 7 = .int .i64 ((w + i : Nat) : Int) ∧ Hold s (env 6) (L.take i) ∧ i ≤ L.length) (fun i => L.length - i) (fun _ => (.tree (encF (val l / 2 ^ k)), [[], []])) ?_ n 0 _ _ (by omega) ⟨rfl, rfl, rfl, hold_nil _, Nat.zero_le _⟩
  intro k' i hx ih env s ⟨h5, h0, h7, h6, hi⟩
  by_cases hp : i = L.length
  · subst hp
    have q1 : ¬ (((w + L.length : Nat) : Int) < (l.length : Int)) := by omega
    rw [List.take_length] at h6
    obtain ⟨s9, e9⟩ := rnorm_hold n d s (env 6) L h6 hLL (by omega) (by omega) 38
    simp only [simB, zbo, Nat.reduceBEq, own0, ↓reduceIte, Nat.reduceEqDiff, Nat.reduceAdd, zdv, zdw, zdx, zdy, zdz, zea, zeb, zec, ia22, ld31, zed, zee, h5, h0, h7, q1, e9]
    rw [hend]
    exact finish_F _ _ _ _ _ _ _ (by simp only [zfp, ↓reduceIte]) rfl
  · have q1 : ((w + i : Nat) : Int) < (l.length : Int) := by omega
    have hx1 := getD_lt l hl (w + i)
    have hx2 := getD_lt l hl (w + i + 1)
    have hg := hget i (by rw [List.length_drop]; omega)
    rw [getD_drop, getD_drop, show w + (i + 1) = w + i + 1 by omega] at hg
    have c1 := rat_call n d b l hl (w + i)
    have c2 := rat_call n d b l hl (w + i + 1)
    have f4 := i_add Tryz.prog 3 ((w + i : Nat) : Int) 1 (by omega) (by omega)
    rw [show ((w + i + 1 : Nat) : Int) = ((w + i : Nat) : Int) + 1 by omega] at c2
    have f1 := u_shl Tryz.prog 96 (l.getD (w + i + 1) 0) .u64 32 (by decide) (by decide)
    rw [show (2 : Nat) ^ (32 : Int).toNat = 4294967296 from rfl, Nat.mod_eq_of_lt (by omega)] at f1
    have f2 := u_or Tryz.prog 96 (l.getD (w + i) 0) (l.getD (w + i + 1) 0 * 4294967296) (by omega) (by omega)
    rw [show (4294967296 : Nat) = 2 ^ 32 from rfl, shl_or _ _ 32 (by omega), show (2 : Nat) ^ 32 = 4294967296 from rfl, Nat.mul_comm] at f2
    rw [Nat.mul_comm] at f1
    have f3 := u_shr Tryz.prog 96 (l.getD (w + i) 0 + 4294967296 * l.getD (w + i + 1) 0) .u64 (r : Int) (by omega) (by omega)
    rw [Int.toNat_natCast] at f3
    obtain ⟨v', s', ea, hh⟩ := append22 36 s (env 6) (L.take i) [(l.getD (w + i) 0 + 4294967296 * l.getD (w + i + 1) 0) / 2 ^ r % 4294967296] .t h6 (by simp only [List.length_cons, List.length_nil, List.length_take]; omega)
    rw [← hg, ← take_next L i (by omega)] at hh
    rw [show encL .t [(l.getD (w + i) 0 + 4294967296 * l.getD (w + i + 1) 0) / 2 ^ r % 4294967296] = .sl [.int .u32 (((l.getD (w + i) 0 + 4294967296 * l.getD (w + i + 1) 0) / 2 ^ r % 4294967296 : Nat) : Int)] 1 .tight from rfl] at ea
    simp only [simB, zbo, Nat.reduceBEq, own0, ↓reduceIte, Nat.reduceEqDiff, Nat.reduceAdd, zdv, zdw, zdx, zdy, zdz, zea, zeb, zec, ia22, ld31, zed, zee, h5, h0, h7, q1, c1, c2, e2, e10, f1, f2, f3, f4, opA_one, one22_int, ea]
    refine ih (i + 1) _ _ (by omega) rfl ⟨?_, ?_, ?_, ?_, ?_⟩
    · simp only [zfp, ↓reduceIte, Nat.reduceEqDiff, h5]
    · simp only [zfp, ↓reduceIte, Nat.reduceEqDiff, h0]
    · simp only [zfp, ↓reduceIte, Nat.reduceEqDiff]; rfl
    · simp only [zfp, ↓reduceIte, Nat.reduceEqDiff]; exact hh
    · omega
end Go.Ab
