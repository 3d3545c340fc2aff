/- Op: sums, differences, products, quotients. Conditions: numbers that are shown. -/
import Derived.Test.YtaifnpbgamookaaDoorAbtA4
namespace Go.Ab
open Go.Proofs
set_option maxRecDepth 100000
set_option linter.unusedSimpArgs false

theorem mul_sgn (a b : Int) : sgn (!(decide (a < 0) == decide (b < 0))) (a.natAbs * b.natAbs) = a * b := by
  have h := Int.natAbs_mul a b
  by_cases ha : a < 0 <;> by_cases hb : b < 0
  · have := Int.mul_pos_of_neg_of_neg ha hb
    simp only [ha, hb, decide_true, beq_self_eq_true, Bool.not_true, sgn, Bool.false_eq_true, if_false]
    rw [← h]; omega
  · have : a * b ≤ 0 := Int.mul_nonpos_of_nonpos_of_nonneg (by omega) (by omega)
    simp only [ha, hb, decide_true, decide_false, sgn, if_true, show (!(true == false)) = true from rfl]
    rw [← h]; omega
  · have : a * b ≤ 0 := Int.mul_nonpos_of_nonneg_of_nonpos (by omega) (by omega)
    simp only [ha, hb, decide_true, decide_false, sgn, if_true, show (!(false == true)) = true from rfl]
    rw [← h]; omega
  · have : 0 ≤ a * b := Int.mul_nonneg (by omega) (by omega)
    simp only [ha, hb, decide_false, beq_self_eq_true, Bool.not_true, sgn, Bool.false_eq_true, if_false]
    rw [← h]; omega
theorem nat_tdiv (x y : Nat) : (x : Int).tdiv (y : Int) = ((x / y : Nat) : Int) := rfl
theorem nat_tmod (x y : Nat) : (x : Int).tmod (y : Int) = ((x % y : Nat) : Int) := rfl
theorem abs_neg' {a : Int} (h : a < 0) : a = -(a.natAbs : Int) := by omega
theorem abs_pos' {a : Int} (h : ¬ a < 0) : a = (a.natAbs : Int) := by omega
theorem quo_sgn (a b : Int) : sgn (!(decide (a < 0) == decide (b < 0))) (a.natAbs / b.natAbs) = a.tdiv b := by
  by_cases ha : a < 0 <;> by_cases hb : b < 0 <;> simp only [ha, hb, decide_true, decide_false, beq_self_eq_true, Bool.not_true, sgn, Bool.false_eq_true, if_false, show (!(true == false)) = true from rfl, show (!(false == true)) = true from rfl, if_true]
  · have h1 := abs_neg' ha; have h2 := abs_neg' hb
    generalize a.natAbs = x at *; generalize b.natAbs = y at *
    subst h1 h2; rw [Int.neg_tdiv, Int.tdiv_neg, Int.neg_neg, nat_tdiv]
  · have h1 := abs_neg' ha; have h2 := abs_pos' hb
    generalize a.natAbs = x at *; generalize b.natAbs = y at *
    subst h1 h2; rw [Int.neg_tdiv, nat_tdiv]
  · have h1 := abs_pos' ha; have h2 := abs_neg' hb
    generalize a.natAbs = x at *; generalize b.natAbs = y at *
    subst h1 h2; rw [Int.tdiv_neg, nat_tdiv]
  · have h1 := abs_pos' ha; have h2 := abs_pos' hb
    generalize a.natAbs = x at *; generalize b.natAbs = y at *
    subst h1 h2; rw [nat_tdiv]
theorem rem_sgn (a b : Int) : sgn (decide (a < 0)) (a.natAbs % b.natAbs) = a.tmod b := by
  by_cases ha : a < 0 <;> by_cases hb : b < 0 <;> simp only [ha, decide_true, decide_false, sgn, Bool.false_eq_true, if_false, if_true]
  · have h1 := abs_neg' ha; have h2 := abs_neg' hb
    generalize a.natAbs = x at *; generalize b.natAbs = y at *
    subst h1 h2; rw [Int.neg_tmod, Int.tmod_neg, nat_tmod]
  · have h1 := abs_neg' ha; have h2 := abs_pos' hb
    generalize a.natAbs = x at *; generalize b.natAbs = y at *
    subst h1 h2; rw [Int.neg_tmod, nat_tmod]
  · have h1 := abs_pos' ha; have h2 := abs_neg' hb
    generalize a.natAbs = x at *; generalize b.natAbs = y at *
    subst h1 h2; rw [Int.tmod_neg, nat_tmod]
  · have h1 := abs_pos' ha; have h2 := abs_pos' hb
    generalize a.natAbs = x at *; generalize b.natAbs = y at *
    subst h1 h2; rw [nat_tmod]
theorem st0_3' (u v w : AV) : st0 [.tree u, .tree v, .tree w] = dead := by
  funext j
  match j with
  | 0 | 1 | 2 | _ + 3 => simp [st0, dead]

section
variable (n d : Nat) (hn : 100000 ≤ n) {w w' : AV} {z z' : Int} (hw : IsN w z) (hw' : IsN w' z')
include hn hw hw'
set_option maxHeartbeats 8000000
end
end Go.Ab
