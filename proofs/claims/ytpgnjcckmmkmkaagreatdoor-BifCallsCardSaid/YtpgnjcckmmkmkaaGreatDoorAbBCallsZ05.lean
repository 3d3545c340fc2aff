/- Several texts put together: AbzA6, AbMn2, AbzA7a, AbzA7, AbzA9, AbzT1, AbzT2, AbzT3, AbzT4, AbzT6, AbzX0, AbzT7, AbzT8, AbzT9, AbzT10, AbzT12, AbzT13, AbzT14, AbzT15, AbzT16, AbMono, AbzT17, AbzOp, AbzOp2, AbzT20, AbzT18, AbzT19, AbzR1, AbzR2, AbzR3, AbzR4, AbzR5, AbzR6, AbzR7, AbzR8, AbzR9. Conditions: as each part says. -/
import Derived.Test.YtpgnjcckmmkmkaaGreatDoorAbBCallsZ04
import Derived.Test.YtpgnjcckmmkmkaaGreatDoorAbBCallsZ00
/- A number as an int, if it is one. Conditions: numbers that are shown. -/
namespace Go.Ab
open Go.Proofs
set_option maxRecDepth 100000
set_option linter.unusedSimpArgs false

def isI64 (z : Int) : Bool := decide (-9223372036854775808 ≤ z) && decide (z < 9223372036854775808)
def intZ (z : Int) : AV := if isI64 z = true then .tup [.int .i64 z, .bool true] else .tup [.int .i64 0, .bool false]
theorem finish_ib (k : Bool) (xs : List Arg) (t u : Nat) (env : Env) (s : St) (z : Int) (b : Bool) (os : List (List AV)) (hv : env t = .int .i64 z) (hu : env u = .bool b) (ho : outsA s 0 xs = some os) :
    finishP Tryz.prog k xs #[.tmp t, .tmp u] env s = some (.tree (.tup [.int .i64 z, .bool b]), os) := by
  simp only [finishP_t2, finish, List.mapM_cons, List.mapM_nil, hv, hu, Option.pure_def, Option.bind_eq_bind, Option.bind_some, settleL, settle, Option.map_some, ho]
theorem conv55_3 (s : St) (x : Nat) (h : x < 18446744073709551616) : convA Tryz.prog 96 3 s (.int .u64 (x : Int)) = some (.int .i64 (if x < 9223372036854775808 then (x : Int) else (x : Int) - 18446744073709551616)) := by
  have e : IntKind.i64.wrap (x : Int) = if x < 9223372036854775808 then (x : Int) else (x : Int) - 18446744073709551616 := by
    simp [IntKind.wrap, IntKind.bits, IntKind.signed]
    (repeat' split) <;> omega
  simp only [convA, tk3, tk40, e]
theorem len2_val (l : List Nat) (hl : Limbs l) (h : l.length ≤ 2) : val l < 18446744073709551616 := by
  have := val_lt l hl
  have h2 : B ^ l.length ≤ B ^ 2 := Nat.pow_le_pow_right (by decide) h
  have e : B ^ 2 = 18446744073709551616 := by decide
  omega
set_option maxHeartbeats 4000000 in
theorem int_eq (n d : Nat) (hn : 100000 ≤ n) {w : AV} {z : Int} (hw : IsN w z) : evalFn Tryz.prog cfg0 n (d+3) 58 [.tree w] = some (.tree (intZ z), [[]]) := by
  obtain ⟨g, c1⟩ := cOf n d hw
  have hlt := hw.lt
  obtain ⟨neg0, g0, l0, rfl, _, _⟩ := hw
  rw [evalFn_go _ Tryz.func58 (by unfold Tryz.f58; rfl) (by unfold Tryz.f58; decide) (Nat.le_of_ble_eq_true (by unfold Tryz.f58; rfl)) (by kernel_rfl)]
  have hl := limbs_digs z.natAbs
  have hv := val_digs z.natAbs
  have hdl : ∀ k, (digs z.natAbs).length ≤ k ↔ z.natAbs < B ^ k := digs_len_le z.natAbs
  obtain ⟨l, hle⟩ : ∃ l, digs z.natAbs = l := ⟨_, rfl⟩
  rw [hle] at hl hv hdl
  by_cases h2 : (l.length : Int) > 2
  · have hb : ¬ z.natAbs < B ^ 2 := fun h => by have := (hdl 2).mpr h; omega
    have e : B ^ 2 = 18446744073709551616 := by decide
    rw [e] at hb
    have hi : isI64 z = false := by
      unfold isI64
      by_cases hz : z < 0
      · rw [decide_eq_false (show ¬ -9223372036854775808 ≤ z by omega)]; rfl
      · rw [decide_eq_false (show ¬ z < 9223372036854775808 by omega), Bool.and_false]
    rw [intZ, if_neg (by rw [hi]; decide)]
    simp only [simB, zbo, Nat.reduceBEq, own0, ↓reduceIte, Nat.reduceEqDiff, Nat.reduceAdd, simA, simL, simN, Nat.zero_add, st0_1, c1, hle, h2]
    exact finish_ib _ _ _ _ _ _ _ _ _ (by simp only [zfr, ↓reduceIte, Nat.reduceEqDiff]) (by simp only [zfr, ↓reduceIte, Nat.reduceEqDiff]) rfl
  have hx64 : z.natAbs < 18446744073709551616 := by rw [← hv]; exact len2_val l hl (by omega)
  simp only [simB, zbo, Nat.reduceBEq, own0, ↓reduceIte, Nat.reduceEqDiff, Nat.reduceAdd, simA, simL, simN, Nat.zero_add, st0_1, c1, hle, h2, den_loop]
  refine loop_ends (X := Nat) (fun i env s => env 1 = .ptr 1 1 0 ∧ s 1 = ⟨1, .buf [.bool (decide (z < 0)), encL g l]⟩ ∧ env 14 = encL g l ∧ env 15 = .int .i64 (l.length : Int) ∧ env 16 = .int .i64 (i : Int) ∧ env 4 = .int .u64 (val (l.take i) : Int) ∧ i ≤ l.length ∧ outsA s 0 [.tree (encA neg0 g0 l0)] = some [[]]) (fun i => l.length - i) (fun _ => (.tree (intZ z), [[]])) ?_ n 0 _ _ (by omega) ⟨rfl, rfl, rfl, rfl, rfl, rfl, Nat.zero_le _, rfl⟩
  intro k i hx ih env s ⟨e1, hs, e14, e15, e16, e4, hi, ho⟩
  by_cases hp : i = l.length
  · subst hp
    have q1 : ¬ ((l.length : Int) < (l.length : Int)) := by omega
    rw [List.take_length, hv] at e4
    by_cases hz : z < 0
    · by_cases hr : z.natAbs ≤ 9223372036854775808
      · have hr' : (z.natAbs : Int) ≤ 9223372036854775808 := by omega
        have u := un_neg64 z.natAbs (by omega)
        rw [Nat.mod_eq_of_lt (by omega)] at u
        have c2 := conv55_3 s (18446744073709551616 - z.natAbs) (by omega)
        rw [if_neg (by omega), show ((18446744073709551616 - z.natAbs : Nat) : Int) - 18446744073709551616 = z by omega] at c2
        have hi : isI64 z = true := by
          unfold isI64
          rw [decide_eq_true (show -9223372036854775808 ≤ z by omega), decide_eq_true (show z < 9223372036854775808 by omega)]; rfl
        rw [intZ, if_pos hi]
        simp only [simB, zbo, Nat.reduceBEq, own0, ↓reduceIte, Nat.reduceEqDiff, Nat.reduceAdd, simL, simN, Nat.zero_add, e1, hs, e14, e15, e16, e4, q1, hz, hr', u, c2]
        exact finish_ib _ _ _ _ _ _ _ _ _ (by simp only [zfr, ↓reduceIte, Nat.reduceEqDiff]) (by simp only [zfr, ↓reduceIte, Nat.reduceEqDiff]) ho
      · have hr' : ¬ (z.natAbs : Int) ≤ 9223372036854775808 := by omega
        have hi : isI64 z = false := by
          unfold isI64
          rw [decide_eq_false (show ¬ -9223372036854775808 ≤ z by omega)]; rfl
        rw [intZ, if_neg (by rw [hi]; decide)]
        simp only [simB, zbo, Nat.reduceBEq, own0, ↓reduceIte, Nat.reduceEqDiff, Nat.reduceAdd, simL, simN, Nat.zero_add, e1, hs, e14, e15, e16, e4, q1, hz, hr', unA_not', Bool.not_true, Bool.not_false]
        exact finish_ib _ _ _ _ _ _ _ _ _ (by simp only [zfr, ↓reduceIte, Nat.reduceEqDiff]) (by simp only [zfr, ↓reduceIte, Nat.reduceEqDiff]) ho
    · by_cases hr : z.natAbs < 9223372036854775808
      · have hr' : (z.natAbs : Int) < 9223372036854775808 := by omega
        have c2 := conv55_3 s z.natAbs (by omega)
        rw [if_pos hr, show ((z.natAbs : Nat) : Int) = z by omega] at c2
        have hi : isI64 z = true := by
          unfold isI64
          rw [decide_eq_true (show -9223372036854775808 ≤ z by omega), decide_eq_true (show z < 9223372036854775808 by omega)]; rfl
        rw [intZ, if_pos hi]
        rw [show ((z.natAbs : Nat) : Int) = z by omega] at e4 hr'
        simp only [simB, zbo, Nat.reduceBEq, own0, ↓reduceIte, Nat.reduceEqDiff, Nat.reduceAdd, simL, simN, Nat.zero_add, e1, hs, e14, e15, e16, e4, q1, hz, hr', c2, unA_not', Bool.not_true, Bool.not_false]
        exact finish_ib _ _ _ _ _ _ _ _ _ (by simp only [zfr, ↓reduceIte, Nat.reduceEqDiff]) (by simp only [zfr, ↓reduceIte, Nat.reduceEqDiff]) ho
      · have hr' : ¬ (z.natAbs : Int) < 9223372036854775808 := by omega
        have hi : isI64 z = false := by
          unfold isI64
          rw [decide_eq_false (show ¬ z < 9223372036854775808 by omega), Bool.and_false]
        rw [intZ, if_neg (by rw [hi]; decide)]
        simp only [simB, zbo, Nat.reduceBEq, own0, ↓reduceIte, Nat.reduceEqDiff, Nat.reduceAdd, simL, simN, Nat.zero_add, e1, hs, e14, e15, e16, e4, q1, hz, hr', unA_not', Bool.not_true, Bool.not_false]
        exact finish_ib _ _ _ _ _ _ _ _ _ (by simp only [zfr, ↓reduceIte, Nat.reduceEqDiff]) (by simp only [zfr, ↓reduceIte, Nat.reduceEqDiff]) ho
  · have q1 : (i : Int) < (l.length : Int) := by omega
    have q2 : (0 : Int) ≤ (i : Int) := by omega
    have q3 : i < l.length := by omega
    have hxi := getD_lt l hl i
    have hti := val_take_lt l hl i
    have hst := val_take_succ' l i
    have m1 := i_mul Tryz.prog 3 32 (i : Int) (by omega) (by omega)
    have hi1 : i = 0 ∨ i = 1 := by omega
    have m2 := u_shl Tryz.prog 96 (l.getD i 0) .i64 (32 * (i : Int)) (by omega) (by omega)
    rw [show (32 * (i : Int)).toNat = 32 * i by omega] at m2
    have hB : B ^ i = 2 ^ (32 * i) := B_pow i
    have hsm : l.getD i 0 * 2 ^ (32 * i) < 18446744073709551616 := by
      rcases hi1 with rfl | rfl
      · omega
      · have : (2 : Nat) ^ (32 * 1) = 4294967296 := by decide
        omega
    rw [Nat.mod_eq_of_lt hsm] at m2
    have hor := shl_or (l.getD i 0) (val (l.take i)) (32 * i) (by rw [← hB]; exact hti)
    have hnew : val (l.take i) + l.getD i 0 * 2 ^ (32 * i) = val (l.take (i + 1)) := by rw [hst, hB, Nat.mul_comm]
    have hb64 : val (l.take i) < 18446744073709551616 := len2_val _ (hl.take i) (by rw [List.length_take]; omega)
    have m3 := u_or Tryz.prog 96 (val (l.take i)) (l.getD i 0 * 2 ^ (32 * i)) hb64 hsm
    rw [hor, hnew] at m3
    have f4 := i_add Tryz.prog 3 (i : Int) 1 (by omega) (by omega)
    simp only [simB, zbo, Nat.reduceBEq, own0, ↓reduceIte, Nat.reduceEqDiff, Nat.reduceAdd, simL, simN, Nat.zero_add, e1, e14, e15, e16, e4, q1, q2, q3, Int.toNat_natCast, hxi, m1, m2, m3, f4]
    refine ih (i + 1) _ _ (by omega) rfl ⟨?_, hs, ?_, ?_, ?_, ?_, by omega, ho⟩
    · simp only [zfr, ↓reduceIte, Nat.reduceEqDiff, e1]
    · simp only [zfr, ↓reduceIte, Nat.reduceEqDiff, e14]
    · simp only [zfr, ↓reduceIte, Nat.reduceEqDiff, e15]
    · simp only [zfr, ↓reduceIte, Nat.reduceEqDiff]; rfl
    · simp only [zfr, ↓reduceIte, Nat.reduceEqDiff]
theorem cInt (n d : Nat) (hn : 100000 ≤ n) {w : AV} {z : Int} (hw : IsN w z) (D : Nat) (s : St) : callA cfg0 (evalFn Tryz.prog cfg0 n (d+3)) D s 58 [w] = some (intZ z, s) :=
  callA_trees (by simp [hw.tree]) (int_eq n d hn hw)
end Go.Ab

/- Shifts of numbers with signs: plain arithmetic. -/
namespace Go.Ab
end Go.Ab

/- Shifts of numbers. Conditions: numbers that are shown. -/
namespace Go.Ab
open Go.Proofs
set_option maxRecDepth 100000
set_option linter.unusedSimpArgs false

end Go.Ab

/- Shifts of numbers, however far. Conditions: numbers that are shown. -/
namespace Go.Ab
open Go.Proofs
set_option maxRecDepth 100000
set_option linter.unusedSimpArgs false

end Go.Ab

/- What the number statements ask besides. Conditions: limbs in range. -/
namespace Go.Ab
open Go.Proofs
set_option maxRecDepth 100000
set_option linter.unusedSimpArgs false

set_option maxHeartbeats 2000000 in
theorem rcheck_eq (n d : Nat) (neg : Bool) (g : Gk) (l : List Nat) (hl : Limbs l) : evalFn Tryz.prog cfg0 n (d+1) 97 [.tree (encA neg g l)] = some (.tree (.bool (chkN neg l)), [[]]) := by
  rw [evalFn_go _ Tryz.func97 (by unfold Tryz.f97; rfl) (by unfold Tryz.f97; decide) (Nat.le_of_ble_eq_true (by unfold Tryz.f97; rfl)) (by kernel_rfl)]
  unfold chkN
  by_cases h : (l.length : Int) ≤ 12
  rotate_left
  · have e1 : decide (l.length ≤ 12) = false := decide_eq_false (by omega)
    simp only [simB, zbo, Nat.reduceBEq, own0, ↓reduceIte, Nat.reduceEqDiff, Nat.reduceAdd, simA, simL, simN, Nat.zero_add, st0_1, h, e1, Bool.false_and]
    exact finish_tree _ _ _ _ _ _ (.bool false) _ _ (by simp only [zfr, ↓reduceIte]) rfl rfl
  have e1 : decide (l.length ≤ 12) = true := decide_eq_true (by omega)
  by_cases hz : l = []
  · subst hz
    have p1 : (((([] : List Nat).length : Nat) : Int) == 0) = true := rfl
    cases neg with
    | false =>
      simp only [simB, zbo, Nat.reduceBEq, own0, ↓reduceIte, Nat.reduceEqDiff, Nat.reduceAdd, simA, simL, simN, Nat.zero_add, st0_1, h, p1, unA_not', Bool.not_false]
      exact finish_tree _ _ _ _ _ _ (.bool true) _ _ (by simp only [zfr, ↓reduceIte]) rfl rfl
    | true =>
      have p2 : ¬ ((([] : List Nat).length : Nat) : Int) > 0 := by simp
      simp only [simB, zbo, Nat.reduceBEq, own0, ↓reduceIte, Nat.reduceEqDiff, Nat.reduceAdd, simA, simL, simN, Nat.zero_add, st0_1, h, p1, p2, unA_not', Bool.not_true]
      exact finish_tree _ _ _ _ _ _ (.bool false) _ _ (by simp only [zfr, ↓reduceIte]) rfl rfl
  · have hp : 0 < l.length := List.length_pos_iff.mpr hz
    have p1 : ((l.length : Int) == 0) = false := by rw [beq_eq_false_iff_ne]; omega
    have p2 : (l.length : Int) > 0 := by omega
    have p3 := i_sub Tryz.prog 3 (l.length : Int) 1 (by omega) (by omega)
    have p4 : (0 : Int) ≤ (l.length : Int) - 1 := by omega
    have p5 : (l.length : Int) - 1 < l.length := by omega
    have p6 : ((l.length : Int) - 1).toNat = l.length - 1 := by omega
    have p7 : l.length - 1 < l.length := by omega
    have q1 : decide (l.length = 0) = false := decide_eq_false (by omega)
    have q2 : decide (0 < l.length) = true := decide_eq_true hp
    simp only [simB, zbo, Nat.reduceBEq, own0, ↓reduceIte, Nat.reduceEqDiff, Nat.reduceAdd, simA, simL, simN, Nat.zero_add, st0_1, h, p1, p2, p3, p4, p5, p6, p7, e1, q1, q2, neq0, Bool.false_and, Bool.false_or, Bool.true_and]
    exact finish_tree _ _ _ _ _ _ (.bool (decide (l.getD (l.length - 1) 0 ≠ 0))) _ _ (by simp only [zfr, ↓reduceIte]) rfl rfl
theorem cRcheck (n d : Nat) (neg : Bool) (g : Gk) (l : List Nat) (hl : Limbs l) (D : Nat) (s : St) : callA cfg0 (evalFn Tryz.prog cfg0 n (d+1)) D s 97 [encA neg g l] = some (.bool (chkN neg l), s) :=
  callA_trees rfl (rcheck_eq n d neg g l hl)
set_option maxHeartbeats 2000000 in
theorem sameN_eq (n d : Nat) (b : Bool) (g g' : Gk) (l : List Nat) (hn : l.length < n) (hk : l.length ≤ 1000000) : evalFn Tryz.prog cfg0 n (d+2) 39 [.tree (encA b g l), .tree (encA b g' l)] = some (.tree (.bool true), [[], []]) := by
  rw [evalFn_go _ Tryz.func39 (by unfold Tryz.f39; rfl) (by unfold Tryz.f39; decide) (Nat.le_of_ble_eq_true (by unfold Tryz.f39; rfl)) (by kernel_rfl)]
  have c1 := fun D s => callA_L2 (evalFn Tryz.prog cfg0 n (d+1)) D s 67 g l g' l _ (same_eq n d g g' l hn hk)
  have eb := bool_eql 4 tk4
  have p : (b == b) = true := beq_self_eq_true b
  simp only [simB, zbo, Nat.reduceBEq, own0, ↓reduceIte, Nat.reduceEqDiff, Nat.reduceAdd, simA, simL, simN, Nat.zero_add, st0_2, eb, p, c1]
  exact finish_b _ _ _ _ _ _ _ (by simp only [zfr, ↓reduceIte]) rfl
section
variable (n d : Nat) (hn : 100000 ≤ n)
include hn
end
end Go.Ab

/- Terms as structs: their cells, read and written. No conditions. -/
namespace Go.Ab
open Go.Proofs
set_option maxRecDepth 100000
set_option linter.unusedSimpArgs false

theorem tkT : tkOf Tryz.prog 29 = .st := by kernel_rfl
theorem eszT : esz Tryz.prog 29 = some 6 := by kernel_rfl
theorem shT : shOf Tryz.prog 29 = some (true, 6) := by kernel_rfl
theorem zeroT : zeroOf Tryz.prog 29 = some [.int .i64 0, .bool false, .sl [] 0 .nil, .str [], .int .i64 0, .sl [] 0 .nil] := by kernel_rfl
theorem plT : placesA Tryz.prog 29 = some [(0, 1), (1, 2), (3, 1), (4, 1), (5, 1)] := by kernel_rfl
theorem fdT0 : fieldOf Tryz.prog 29 0 = some (3, 0) := by kernel_rfl
theorem fdT1 : fieldOf Tryz.prog 29 1 = some (27, 1) := by kernel_rfl
theorem fdT2 : fieldOf Tryz.prog 29 2 = some (9, 3) := by kernel_rfl
theorem fdT3 : fieldOf Tryz.prog 29 3 = some (3, 4) := by kernel_rfl
theorem fdT4 : fieldOf Tryz.prog 29 4 = some (22, 5) := by kernel_rfl
theorem eszTi : esz Tryz.prog 3 = some 1 := by kernel_rfl
theorem eszTs : esz Tryz.prog 9 = some 1 := by kernel_rfl
theorem eszTk : esz Tryz.prog 22 = some 1 := by kernel_rfl
theorem shTi : shOf Tryz.prog 3 = some (false, 1) := by kernel_rfl
theorem shTs : shOf Tryz.prog 9 = some (false, 1) := by kernel_rfl
theorem shTk : shOf Tryz.prog 22 = some (false, 1) := by kernel_rfl
theorem tkTk : tkOf Tryz.prog 22 = .sl 29 := by kernel_rfl
theorem faT_0 (s : St) (p k off : Nat) : fieldAddrA Tryz.prog 29 s (.ptr p k off) 0 = faE (s p) p k off := by
  simp only [fieldAddrA, fdT0, eszTi, live, cellsAt_E, faE, Nat.add_zero]
theorem faT_1 (s : St) (p k off : Nat) : fieldAddrA Tryz.prog 29 s (.ptr p k off) 1 = faE (s p) p k (off + 1) := by
  simp only [fieldAddrA, fdT1, esz24, live, cellsAt_E, faE]
theorem faT_2 (s : St) (p k off : Nat) : fieldAddrA Tryz.prog 29 s (.ptr p k off) 2 = faE (s p) p k (off + 3) := by
  simp only [fieldAddrA, fdT2, eszTs, live, cellsAt_E, faE]
theorem faT_3 (s : St) (p k off : Nat) : fieldAddrA Tryz.prog 29 s (.ptr p k off) 3 = faE (s p) p k (off + 4) := by
  simp only [fieldAddrA, fdT3, eszTi, live, cellsAt_E, faE]
theorem faT_4 (s : St) (p k off : Nat) : fieldAddrA Tryz.prog 29 s (.ptr p k off) 4 = faE (s p) p k (off + 5) := by
  simp only [fieldAddrA, fdT4, eszTk, live, cellsAt_E, faE]
section
variable (t k : Nat) (a b c d e f : AV)
theorem ldT_a : ldE Tryz.prog 29 ⟨t, .buf [a, b, c, d, e, f]⟩ k 0 = if t = k then some (.agg [a, b, c, d, e, f]) else none := by
  rw [ldE_buf, cellsE_buf]
  by_cases h : t = k
  · simp [h, partA, shT]
  · simp [h]
theorem ldT_0 : ldE Tryz.prog 3 ⟨t, .buf [a, b, c, d, e, f]⟩ k 0 = if t = k then some a else none := by
  rw [ldE_buf, cellsE_buf]
  by_cases h : t = k
  · simp [h, partA, shTi]
  · simp [h]
theorem ldT_1 : ldE Tryz.prog 27 ⟨t, .buf [a, b, c, d, e, f]⟩ k 1 = if t = k then some (.agg [b, c]) else none := by
  rw [ldE_buf, cellsE_buf]
  by_cases h : t = k
  · simp [h, partA, sh24]
  · simp [h]
theorem ldT_2 : ldE Tryz.prog 9 ⟨t, .buf [a, b, c, d, e, f]⟩ k 3 = if t = k then some d else none := by
  rw [ldE_buf, cellsE_buf]
  by_cases h : t = k
  · simp [h, partA, shTs]
  · simp [h]
theorem ldT_3 : ldE Tryz.prog 3 ⟨t, .buf [a, b, c, d, e, f]⟩ k 4 = if t = k then some e else none := by
  rw [ldE_buf, cellsE_buf]
  by_cases h : t = k
  · simp [h, partA, shTi]
  · simp [h]
theorem ldT_4 : ldE Tryz.prog 22 ⟨t, .buf [a, b, c, d, e, f]⟩ k 5 = if t = k then some f else none := by
  rw [ldE_buf, cellsE_buf]
  by_cases h : t = k
  · simp [h, partA, shTk]
  · simp [h]
end
def stT (e : Ent) (p k : Nat) (s : St) (ys : List AV) : Option St :=
  match e with | ⟨t', .buf xs⟩ => if t' = k then (if ys.length ≤ xs.length then some (upd s p ⟨t', .buf (splice xs 0 ys)⟩) else none) else none | _ => none
theorem st_T (s : St) (p k : Nat) (a b c d e f : AV) : storeA Tryz.prog 29 s (.ptr p k 0) (.agg [a, b, c, d, e, f]) = stT (s p) p k s [a, b, c, d, e, f] := by
  simp only [storeA, settle, Option.bind_some, stT]
  cases h : s p with
  | mk t c => cases c <;> simp [eszT]
theorem stT_buf (t k p : Nat) (s : St) (a b c d e f a' b' c' d' e' f' : AV) : stT ⟨t, .buf [a', b', c', d', e', f']⟩ p k s [a, b, c, d, e, f] = if t = k then some (upd s p ⟨t, .buf [a, b, c, d, e, f]⟩) else none := by
  simp [stT, splice]
theorem bdT_ : buildA Tryz.prog 29 [] = some (.agg [.int .i64 0, .bool false, .sl [] 0 .nil, .str [], .int .i64 0, .sl [] 0 .nil]) := by
  simp only [buildA, zeroT, tkT, plT, Option.bind_some, fillA]; rfl
theorem bdT_0 (k : Int) : buildA Tryz.prog 29 [(0, .int .i64 k)] = some (.agg [.int .i64 k, .bool false, .sl [] 0 .nil, .str [], .int .i64 0, .sl [] 0 .nil]) := by
  simp only [buildA, zeroT, tkT, plT, Option.bind_some]; rfl
theorem bdT_1 (k : Int) (b : Bool) (g : Gk) (l : List Nat) : buildA Tryz.prog 29 [(0, .int .i64 k), (1, .agg [.bool b, encL g l])] = some (.agg [.int .i64 k, .bool b, encL g l, .str [], .int .i64 0, .sl [] 0 .nil]) := by
  simp only [buildA, zeroT, tkT, plT, Option.bind_some]; rfl
theorem bdT_2 (k : Int) (s : List UInt8) : buildA Tryz.prog 29 [(0, .int .i64 k), (2, .str s)] = some (.agg [.int .i64 k, .bool false, .sl [] 0 .nil, .str s, .int .i64 0, .sl [] 0 .nil]) := by
  simp only [buildA, zeroT, tkT, plT, Option.bind_some]; rfl
theorem bdT_4 (k : Int) (xs : List AV) (m : Nat) (g : Gk) : buildA Tryz.prog 29 [(0, .int .i64 k), (4, .sl xs m (gr g))] = some (.agg [.int .i64 k, .bool false, .sl [] 0 .nil, .str [], .int .i64 0, .sl xs m (gr g)]) := by
  simp only [buildA, zeroT, tkT, plT, Option.bind_some]
  cases g <;> rfl
theorem lenTk (s : St) (xs : List AV) (m : Nat) (g : Grip) : lenA Tryz.prog 22 s (.sl xs m g) = some (.int .i64 (m : Int)) := by simp only [lenA, tkTk]
end Go.Ab

/- The term statements' own example, by the kernel's own reckoning. No conditions. -/
namespace Go.Ab
open Go.Proofs
end Go.Ab

/- Terms of each kind: compared, the same. Conditions: limbs in range. -/
namespace Go.Ab
open Go.Proofs
set_option maxRecDepth 100000
set_option linter.unusedSimpArgs false

section
variable (b : Bool) (g : Gk) (l : List Nat) (s : List UInt8)
end
end Go.Ab

/- A term of each kind beside itself. Conditions: limbs in range. -/
namespace Go.Ab
open Go.Proofs
set_option maxRecDepth 100000
set_option linter.unusedSimpArgs false

theorem s_lssS (P : Program) (t : TypeId) (a b : List UInt8) : binA P .lss t (.str a) (.str b) = some (.bool (Op.bytesLess a b)) := rfl
theorem s_gtrS (P : Program) (t : TypeId) (a b : List UInt8) : binA P .gtr t (.str a) (.str b) = some (.bool (!(Op.bytesLess a b || a == b))) := rfl
theorem s_neqS (P : Program) (t : TypeId) (a b : List UInt8) : binA P .neq t (.str a) (.str b) = some (.bool (!(a == b))) := rfl
theorem s_eqlS (P : Program) (t : TypeId) (a b : List UInt8) : binA P .eql t (.str a) (.str b) = some (.bool (a == b)) := rfl
theorem nanS_eq (n d : Nat) (s : List UInt8) : evalFn Tryz.prog cfg0 n (d+1) 144 [.tree (.str s)] = some (.tree (.bool false), [[]]) := by
  rw [evalFn_go _ Tryz.func144 (by unfold Tryz.f144; rfl) (by unfold Tryz.f144; decide) (Nat.le_of_ble_eq_true (by unfold Tryz.f144; rfl)) (by kernel_rfl)]
  have q : (s == s) = true := beq_self_eq_true _
  simp only [simB, zbo, Nat.reduceBEq, own0, ↓reduceIte, Nat.reduceEqDiff, Nat.reduceAdd, simA, s_neqS, q, Bool.not_true]
  exact finish_b _ _ _ _ _ _ _ (by simp only [zfr, ↓reduceIte, Nat.reduceEqDiff]) rfl
theorem faN_0 (s : St) (p k off : Nat) : fieldAddrA Tryz.prog 27 s (.ptr p k off) 0 = faE (s p) p k off := by
  simp only [fieldAddrA, fd24_0, esz4, live, cellsAt_E, faE, Nat.add_zero]
theorem faN_1 (s : St) (p k off : Nat) : fieldAddrA Tryz.prog 27 s (.ptr p k off) 1 = faE (s p) p k (off + 1) := by
  simp only [fieldAddrA, fd24_1, esz22, live, cellsAt_E, faE]
theorem ldT_l (t k : Nat) (a b c d e f : AV) : ldE Tryz.prog 25 ⟨t, .buf [a, b, c, d, e, f]⟩ k 2 = if t = k then some c else none := by
  rw [ldE_buf, cellsE_buf]
  by_cases h : t = k
  · simp [h, partA, sh22]
  · simp [h]
theorem tk33s : tkOf Tryz.prog 56 = .sl 3 := by kernel_rfl
theorem zero3i : zeroOf Tryz.prog 3 = some [.int .i64 0] := by kernel_rfl
def two33 (x y : AV) : Option AV := (fillA (fun i => some (i * 1, 1)) (rep 2 [.int .i64 0]) [(0, x), (1, y)]).map (.sl · 2 .tight)
theorem two33_int (x y : Int) : two33 (.int .i64 x) (.int .i64 y) = some (.sl [.int .i64 x, .int .i64 y] 2 .tight) := rfl
theorem opA_two33 (call : FuncId → List Arg → Option Out) (q : Bool) (d : Option Tmp) (ty : TypeId) (pos : String) (af : Array Edge) (g : Option (Nat × Bool)) (t : Nat) (env : Env) (s : St) (x y : Operand) :
    opA Tryz.prog cfg0 call q ⟨d, .buildSlice 56 2 #[(0, x), (1, y)], ty, pos, af, g⟩ t env s = (two33 (ev env x) (ev env y)).map (·, s) := by
  rw [opA_bs]
  simp only [tk33s, eszTi, zero3i, Option.bind_some, List.map_cons, List.map_nil]
  rfl
section
variable (b : Bool) (g : Gk) (l : List Nat) (s : List UInt8)
set_option maxHeartbeats 8000000
end
end Go.Ab

/- Terms as trees: their cells; how deep, how many; what term.check asks. No conditions. -/
namespace Go.Ab
open Go.Proofs
set_option maxRecDepth 100000
set_option linter.unusedSimpArgs false

inductive T where
  | mk (k : Int) (b : Bool) (lg : Gk) (l : List Nat) (s : List UInt8) (n : Int) (kg : Gk) (ks : List T)
mutual
def cellsT : T → List AV
  | .mk k b lg l s n kg ks => [.int .i64 k, .bool b, encL lg l, .str s, .int .i64 n, .sl (cellsK ks) ks.length (gr kg)]
def cellsK : List T → List AV
  | [] => []
  | t :: r => cellsT t ++ cellsK r
end
def encT (t : T) : AV := .agg (cellsT t)
mutual
def nodT : T → Nat
  | .mk _ _ _ _ _ _ _ ks => nodK ks + 1
def nodK : List T → Nat
  | [] => 0
  | t :: r => nodT t + nodK r
end
mutual
def htT : T → Nat
  | .mk _ _ _ _ _ _ _ ks => htK ks + 1
def htK : List T → Nat
  | [] => 0
  | t :: r => max (htT t) (htK r)
end
theorem cellsT_len (t : T) : (cellsT t).length = 6 := by cases t; simp only [cellsT]; rfl
theorem cellsK_len : ∀ ks : List T, (cellsK ks).length = ks.length * 6
  | [] => rfl
  | t :: r => by simp only [cellsK, List.length_append, cellsT_len, cellsK_len r, List.length_cons]; omega
theorem cellsK_drop : ∀ (ks : List T) (i : Nat), (cellsK ks).drop (i * 6) = cellsK (ks.drop i)
  | [], i => by simp [cellsK]
  | t :: r, 0 => by simp
  | t :: r, i + 1 => by
    have h : (i + 1) * 6 = (cellsT t).length + i * 6 := by rw [cellsT_len]; omega
    simp only [cellsK, List.drop_succ_cons]
    rw [h, ← List.drop_drop, List.drop_left, cellsK_drop r i]
theorem cellsK_take : ∀ (ks : List T) (i : Nat), (cellsK ks).take (i * 6) = cellsK (ks.take i)
  | [], i => by simp [cellsK]
  | t :: r, 0 => by simp [cellsK]
  | t :: r, i + 1 => by
    have h : (i + 1) * 6 = (cellsT t).length + i * 6 := by rw [cellsT_len]; omega
    simp only [cellsK, List.take_succ_cons]
    rw [h, List.take_length_add_append, cellsK_take r i]
theorem cellsK_append (a b : List T) : cellsK (a ++ b) = cellsK a ++ cellsK b := by
  induction a with
  | nil => rfl
  | cons t r ih => simp only [List.cons_append, cellsK, ih, List.append_assoc]
theorem ia_K (s : St) (ks : List T) (g : Grip) (i : Nat) (h : i < ks.length) : indexAddrA Tryz.prog 22 s (.sl (cellsK ks) ks.length g) (.int .i64 (i : Int)) = some (.rptr (cellsK (ks.drop i))) := by
  simp only [indexAddrA, tkTk, eszT, Option.bind_some, Int.toNat_natCast]
  rw [if_pos ⟨by omega, by omega⟩, cellsK_drop]
theorem ld_K (s : St) (t : T) (r : List T) : loadA Tryz.prog 29 s (.rptr (cellsK (t :: r))) = some (encT t) := by
  have h : (cellsT t ++ cellsK r).take 6 = cellsT t := by rw [← cellsT_len t]; simp
  have h2 : 6 ≤ (cellsT t ++ cellsK r).length := by rw [List.length_append, cellsT_len]; omega
  simp only [loadA, partA, shT, cellsK, Nat.zero_add, h2, ↓reduceIte, List.drop_zero, h, encT]
theorem nod_pos (t : T) : 0 < nodT t := by cases t; simp [nodT]
theorem nodK_len : ∀ ks : List T, ks.length ≤ nodK ks
  | [] => Nat.le_refl _
  | t :: r => by have := nod_pos t; have := nodK_len r; simp only [nodK, List.length_cons]; omega
theorem kids_ht : ∀ (ks : List T) (i : Nat) (t : T) (r : List T), ks.drop i = t :: r → htT t ≤ htK ks
  | [], i, t, r, h => by simp at h
  | a :: q, 0, t, r, h => by simp only [List.drop_zero, List.cons.injEq] at h; obtain ⟨rfl, rfl⟩ := h; simp only [htK]; omega
  | a :: q, i + 1, t, r, h => by have := kids_ht q i t r (by simpa using h); simp only [htK]; omega
theorem kids_nod : ∀ (ks : List T) (i : Nat) (t : T) (r : List T), ks.drop i = t :: r → nodT t ≤ nodK ks
  | [], i, t, r, h => by simp at h
  | a :: q, 0, t, r, h => by simp only [List.drop_zero, List.cons.injEq] at h; obtain ⟨rfl, rfl⟩ := h; simp only [nodK]; omega
  | a :: q, i + 1, t, r, h => by have := kids_nod q i t r (by simpa using h); simp only [nodK]; omega
theorem drop_next {α : Type} {ks : List α} {i : Nat} {t : α} {r : List α} (h : ks.drop i = t :: r) : ks.drop (i + 1) = r := by
  rw [← List.drop_drop, h]; rfl
theorem nodK_app : ∀ a b : List T, nodK (a ++ b) = nodK a + nodK b
  | [], b => by simp only [List.nil_append, nodK]; omega
  | t :: r, b => by simp only [List.cons_append, nodK, nodK_app r b]; omega
theorem nodK_take (ks : List T) (i : Nat) : nodK (ks.take i) ≤ nodK ks := by
  have := nodK_app (ks.take i) (ks.drop i)
  rw [List.take_append_drop] at this
  omega
end Go.Ab

/- Strings: short things. No conditions. -/
namespace Go.Ab
open Go.Proofs
set_option maxRecDepth 100000
set_option linter.unusedSimpArgs false

theorem len9 (s : St) (b : List UInt8) : lenA Tryz.prog 9 s (.str b) = some (.int .i64 (b.length : Int)) := by simp only [lenA, tk9]
theorem ix9 (b : List UInt8) (k : IntKind) (i : Int) : indexA Tryz.prog 9 (.str b) (.int k i) = if 0 ≤ i ∧ i < b.length then some (.int .u8 ((b.getD i.toNat 0).toNat : Int)) else none := by simp only [indexA, tk9]
theorem zey (P : Program) (t : TypeId) (a b : List UInt8) : binA P .eql t (.str a) (.str b) = some (.bool (a == b)) := rfl
theorem zez (P : Program) (t : TypeId) (a b : List UInt8) : binA P .neq t (.str a) (.str b) = some (.bool (!(a == b))) := rfl
theorem s_addS (P : Program) (t : TypeId) (a b : List UInt8) (h : a.length + b.length ≤ 9223372036854775807) : binA P .add t (.str a) (.str b) = some (.str (a ++ b)) := if_pos h
theorem zfa (s : St) (b : List UInt8) (k : IntKind) (i : Int) : sliceA Tryz.prog 9 s (.str b) (some (.int k i)) none none = if 0 ≤ i ∧ i ≤ b.length then some (.str (b.drop i.toNat)) else none := by
  simp only [sliceA, tk9, boundA, Option.isSome_none, Bool.false_eq_true, if_false, Option.bind_some]
  split
  · rw [Option.bind_some, List.take_length]
  · rfl
theorem zfb (s : St) (b : List UInt8) (k : IntKind) (i : Int) : sliceA Tryz.prog 9 s (.str b) none (some (.int k i)) none = if 0 ≤ i ∧ i ≤ b.length then some (.str (b.take i.toNat)) else none := by
  simp only [sliceA, tk9, boundA, Option.isSome_none, Bool.false_eq_true, if_false, Option.bind_some]
  split
  · rfl
  · rfl
theorem finish_s (k : Bool) (xs : List Arg) (t : Nat) (env : Env) (s : St) (v : List UInt8) (os : List (List AV)) (hv : env t = .str v) (ho : outsA s 0 xs = some os) :
    finishP Tryz.prog k xs #[.tmp t] env s = some (.tree (.str v), os) := finish_tree _ _ _ _ _ _ (.str v) _ _ hv rfl ho
end Go.Ab

/- Of a term by itself: is it right? No conditions but limbs in range. -/
namespace Go.Ab
open Go.Proofs
set_option maxRecDepth 100000
set_option linter.unusedSimpArgs false

def zeroB (b : Bool) (l : List Nat) : Bool := !b && decide (l.length = 0)
theorem len23 (s : St) (g : Gk) (l : List Nat) : lenA Tryz.prog 25 s (encL g l) = some (.int .i64 (l.length : Int)) := zdx s g l
def okC (c : UInt8) : Bool := decide (33 ≤ c.toNat) && decide (c.toNat ≤ 126)
def nameB (s : List UInt8) : Bool := decide (1 ≤ s.length) && decide (s.length ≤ 40) && s.all okC
def ownT : T → Bool
  | .mk k b _ l s n _ ks => decide (1 ≤ k ∧ k ≤ 6) && ((if k = 1 then chkN b l else zeroB b l) && (if k = 2 then nameB s else if k = 6 then decide (s.length ≤ 400) else s == []) && (if k = 4 then decide (ks.length = 2) else if k = 5 then decide (ks.length ≤ 40) else decide (ks.length = 0)) && decide (n = 0))
def limT : T → List Nat
  | .mk _ _ _ l _ _ _ _ => l
theorem i_eqlV (x y : Int) : binA Tryz.prog .eql 3 (.int .i64 x) (.int .i64 y) = some (.bool (x == y)) := rfl
section
variable {P : Program} {cfg : Cfg} {call : FuncId → List Arg → Option Out} {n : Nat}
end
end Go.Ab

/- term.check. Conditions: limbs in range; so many nodes at most. -/
namespace Go.Ab
open Go.Proofs
set_option maxRecDepth 100000
set_option linter.unusedSimpArgs false

end Go.Ab

/- term.check, walked. Conditions: limbs in range; so many nodes at most. -/
namespace Go.Ab
open Go.Proofs
set_option maxRecDepth 100000
set_option linter.unusedSimpArgs false

theorem stT_len (e : Ent) (p k : Nat) (s : St) (ys : List AV) (t : Nat) (xs : List AV) (he : e = ⟨t, .buf xs⟩) (h1 : xs.length = 6) (h2 : ys.length = 6) : stT e p k s ys = if t = k then some (upd s p ⟨t, .buf ys⟩) else none := by
  subst he
  have h3 : splice xs 0 ys = ys := by
    simp only [splice, List.take_zero, List.nil_append, Nat.zero_add, h2]
    rw [List.drop_eq_nil_of_le (by omega), List.append_nil]
  simp only [stT, h1, h2, Nat.le_refl, ↓reduceIte, h3]
theorem st_Tt (s : St) (p k : Nat) (u : T) : storeA Tryz.prog 29 s (.ptr p k 0) (.agg (cellsT u)) = stT (s p) p k s (cellsT u) := by
  obtain ⟨a, b, c, d, e, f, g, h⟩ := u
  simp only [cellsT]
  exact st_T s p k _ _ _ _ _ _
theorem stT_6 (t k p : Nat) (s : St) (a b c d e f : AV) (u : T) : stT ⟨t, .buf [a, b, c, d, e, f]⟩ p k s (cellsT u) = if t = k then some (upd s p ⟨t, .buf (cellsT u)⟩) else none :=
  stT_len _ _ _ _ _ _ _ rfl rfl (cellsT_len u)
theorem stT_u (t k p : Nat) (s : St) (v u : T) : stT ⟨t, .buf (cellsT v)⟩ p k s (cellsT u) = if t = k then some (upd s p ⟨t, .buf (cellsT u)⟩) else none :=
  stT_len _ _ _ _ _ _ _ rfl (cellsT_len v) (cellsT_len u)
theorem ldT_u (t k : Nat) (u : T) : ldE Tryz.prog 29 ⟨t, .buf (cellsT u)⟩ k 0 = if t = k then some (.agg (cellsT u)) else none := by
  obtain ⟨a, b, c, d, e, f, g, h⟩ := u
  simp only [cellsT]
  exact ldT_a _ _ _ _ _ _ _ _
end Go.Ab

/- term.Check, term.Nodes. Conditions: limbs in range; so many nodes at most. -/
namespace Go.Ab
open Go.Proofs
set_option maxRecDepth 100000
set_option linter.unusedSimpArgs false

set_option maxHeartbeats 8000000 in
theorem tNodes_eq (n : Nat) (hn2 : n ≤ 1000000) : ∀ (d : Nat) (t : T), htT t ≤ d → nodT t < n →
    evalFn Tryz.prog cfg0 n d 35 [.tree (encT t)] = some (.tree (.int .i64 (nodT t : Int)), [[]])
  | 0, t, hd, hnd => by obtain ⟨k, b, lg, l, s, m, kg, ks⟩ := t; simp only [htT] at hd; omega
  | d + 1, t, hd, hnd => by
    have IH := tNodes_eq n hn2 d
    rw [evalFn_go _ Tryz.func35 (by unfold Tryz.f35; rfl) (by unfold Tryz.f35; decide) (Nat.le_of_ble_eq_true (by unfold Tryz.f35; rfl)) (by kernel_rfl)]
    obtain ⟨k, b, lg, l, s, m, kg, ks⟩ := t
    simp only [htT] at hd
    simp only [nodT] at hnd ⊢
    simp only [simB, zbo, Nat.reduceBEq, own0, ↓reduceIte, Nat.reduceEqDiff, Nat.reduceAdd, simA, simN, Nat.zero_add, encT, cellsT, faT_4, ldT_4, lenTk, den_loop]
    refine loop_ends (X := Nat) (fun i env s' => env 7 = .sl (cellsK ks) ks.length (gr kg) ∧ env 8 = .int .i64 (ks.length : Int) ∧ env 9 = .int .i64 (i : Int) ∧ env 3 = .int .i64 ((nodK (ks.take i) + 1 : Nat) : Int) ∧ i ≤ ks.length) (fun i => ks.length - i) (fun _ => (.tree (.int .i64 ((nodK ks + 1 : Nat) : Int)), [[]])) ?_ n 0 _ _ (by have := nodK_len ks; omega) ⟨(by simp only [zfr, ↓reduceIte, Nat.reduceEqDiff]; try rfl), (by simp only [zfr, ↓reduceIte, Nat.reduceEqDiff]; try rfl), (by simp only [zfr, ↓reduceIte, Nat.reduceEqDiff]; try rfl), (by simp only [zfr, ↓reduceIte, Nat.reduceEqDiff]; try rfl), Nat.zero_le _⟩
    rintro rr i hrr ih2 env st ⟨e7, e8, e9, e3, hi⟩
    cases hdr : ks.drop i with
    | nil =>
      have hil : i = ks.length := by have := congrArg List.length hdr; simp only [List.length_drop, List.length_nil] at this; omega
      subst hil
      rw [List.take_length] at e3
      have q1 : ¬ ((ks.length : Int) < (ks.length : Int)) := by omega
      simp only [simB, zbo, Nat.reduceBEq, own0, ↓reduceIte, Nat.reduceEqDiff, Nat.reduceAdd, simL, simN, Nat.zero_add, e7, e8, e9, e3, q1]
      exact finish_i _ _ _ _ _ _ _ (by simp only [zfr, ↓reduceIte, Nat.reduceEqDiff]; try rfl) rfl
    | cons kid r =>
      have hil : i < ks.length := by have := congrArg List.length hdr; simp only [List.length_drop, List.length_cons] at this; omega
      have kh := kids_ht ks i kid r hdr
      have kn := kids_nod ks i kid r hdr
      have ht : ks.take (i + 1) = ks.take i ++ [kid] := by
        rw [List.take_add_one]
        congr 1
        have : ks[i]? = some kid := by rw [← Nat.add_zero i, ← List.getElem?_drop, hdr]; rfl
        rw [this]; rfl
      have hle : nodK (ks.take (i + 1)) ≤ nodK ks := nodK_take ks (i + 1)
      have hsum : nodK (ks.take (i + 1)) = nodK (ks.take i) + nodT kid := by
        rw [ht, nodK_app]; simp only [nodK]; omega
      have q1 : (i : Int) < (ks.length : Int) := by omega
      have f5 := i_add Tryz.prog 3 (i : Int) 1 (by omega) (by have := nodK_len ks; omega)
      have f6 := i_add Tryz.prog 3 ((nodK (ks.take i) + 1 : Nat) : Int) (nodT kid : Int) (by omega) (by omega)
      have cc := fun D st => callA_trees (cfg := cfg0) (d := D) (s := st) (f := 35) (vs := [encT kid]) rfl (IH kid (by omega) (by omega))
      simp only [encT] at cc
      have ia := fun st => ia_K st ks (gr kg) i hil
      rw [hdr] at ia
      have ld := fun st => ld_K st kid r
      simp only [encT] at ld
      simp only [simB, zbo, Nat.reduceBEq, own0, ↓reduceIte, Nat.reduceEqDiff, Nat.reduceAdd, simL, simN, Nat.zero_add, e7, e8, e9, e3, q1, ia, ld, zeroT, st_Tt, stT_6, ldT_u, f5, f6, cc]
      refine ih2 (i + 1) _ _ (by omega) rfl ⟨(by simp only [zfr, ↓reduceIte, Nat.reduceEqDiff, e7]; try rfl), (by simp only [zfr, ↓reduceIte, Nat.reduceEqDiff, e8]; try rfl), (by simp only [zfr, ↓reduceIte, Nat.reduceEqDiff]; try rfl), ?_, by omega⟩
      simp only [zfr, ↓reduceIte, Nat.reduceEqDiff]
      rw [hsum]
      congr 1
      omega
end Go.Ab

/- What comparing terms needs. No conditions but limbs in range. -/
namespace Go.Ab
open Go.Proofs
set_option maxRecDepth 100000
set_option linter.unusedSimpArgs false

def three (a b : Int) : Int := if a < b then -1 else if b < a then 1 else 0
def or2 (a b : Int) : Int := if a = 0 then b else a
def strC (a b : List UInt8) : Int := if Op.bytesLess a b = true then -1 else if a = b then 0 else 1
theorem nanI_eq (n d : Nat) (x : Int) : evalFn Tryz.prog cfg0 n (d+1) 142 [.tree (.int .i64 x)] = some (.tree (.bool false), [[]]) := by
  rw [evalFn_go _ Tryz.func142 (by unfold Tryz.f142; rfl) (by unfold Tryz.f142; decide) (Nat.le_of_ble_eq_true (by unfold Tryz.f142; rfl)) (by kernel_rfl)]
  have q : (x != x) = false := bne_self_eq_false _
  simp only [simB, zbo, Nat.reduceBEq, own0, ↓reduceIte, Nat.reduceEqDiff, Nat.reduceAdd, simA, simL, q]
  exact finish_b _ _ _ _ _ _ _ (by simp only [zfr, ↓reduceIte, Nat.reduceEqDiff]; try rfl) rfl
theorem cmpCI_eq (n d : Nat) (x y : Int) : evalFn Tryz.prog cfg0 n (d+2) 123 [.tree (.int .i64 x), .tree (.int .i64 y)] = some (.tree (.int .i64 (three x y)), [[], []]) := by
  rw [evalFn_go _ Tryz.func123 (by unfold Tryz.f123; rfl) (by unfold Tryz.f123; decide) (Nat.le_of_ble_eq_true (by unfold Tryz.f123; rfl)) (by kernel_rfl)]
  unfold three
  have c1 := fun D st x => callA_trees (cfg := cfg0) (d := D) (s := st) (f := 142) (vs := [.int .i64 x]) rfl (nanI_eq n d x)
  by_cases h : x < y
  · simp only [simB, zbo, Nat.reduceBEq, own0, ↓reduceIte, Nat.reduceEqDiff, Nat.reduceAdd, simA, simL, c1, h]
    exact finish_i _ _ _ _ _ _ _ (by simp only [zfr, ↓reduceIte, Nat.reduceEqDiff]; try rfl) rfl
  · by_cases g : y < x
    · have g' : x > y := g
      simp only [simB, zbo, Nat.reduceBEq, own0, ↓reduceIte, Nat.reduceEqDiff, Nat.reduceAdd, simA, simL, c1, h, g, g']
      exact finish_i _ _ _ _ _ _ _ (by simp only [zfr, ↓reduceIte, Nat.reduceEqDiff]; try rfl) rfl
    · have g' : ¬ x > y := g
      simp only [simB, zbo, Nat.reduceBEq, own0, ↓reduceIte, Nat.reduceEqDiff, Nat.reduceAdd, simA, simL, c1, h, g, g']
      exact finish_i _ _ _ _ _ _ _ (by simp only [zfr, ↓reduceIte, Nat.reduceEqDiff]; try rfl) rfl
theorem cmpCS_eq (n d : Nat) (x y : List UInt8) : evalFn Tryz.prog cfg0 n (d+2) 126 [.tree (.str x), .tree (.str y)] = some (.tree (.int .i64 (strC x y)), [[], []]) := by
  rw [evalFn_go _ Tryz.func126 (by unfold Tryz.f126; rfl) (by unfold Tryz.f126; decide) (Nat.le_of_ble_eq_true (by unfold Tryz.f126; rfl)) (by kernel_rfl)]
  unfold strC
  have c1 := fun D st x => callA_trees (cfg := cfg0) (d := D) (s := st) (f := 144) (vs := [.str x]) rfl (nanS_eq n d x)
  cases h : Op.bytesLess x y with
  | true =>
    simp only [simB, zbo, Nat.reduceBEq, own0, ↓reduceIte, Nat.reduceEqDiff, Nat.reduceAdd, simA, s_lssS, s_gtrS, c1, h]
    exact finish_i _ _ _ _ _ _ _ (by simp only [zfr, ↓reduceIte, Nat.reduceEqDiff]; try rfl) rfl
  | false =>
    by_cases g : x = y
    · have g' : (x == y) = true := beq_iff_eq.mpr g
      simp only [simB, zbo, Nat.reduceBEq, own0, ↓reduceIte, Nat.reduceEqDiff, Nat.reduceAdd, simA, s_lssS, s_gtrS, c1, h, g', Bool.false_or, Bool.not_true, if_pos g]
      exact finish_i _ _ _ _ _ _ _ (by simp only [zfr, ↓reduceIte, Nat.reduceEqDiff]; try rfl) rfl
    · have g' : (x == y) = false := beq_eq_false_iff_ne.mpr g
      simp only [simB, zbo, Nat.reduceBEq, own0, ↓reduceIte, Nat.reduceEqDiff, Nat.reduceAdd, simA, s_lssS, s_gtrS, c1, h, g', Bool.false_or, Bool.not_false, if_neg g]
      exact finish_i _ _ _ _ _ _ _ (by simp only [zfr, ↓reduceIte, Nat.reduceEqDiff]; try rfl) rfl
theorem tk33 : tkOf Tryz.prog 56 = .sl 3 := by kernel_rfl
theorem len33 (s : St) (xs : List AV) (m : Nat) (g : Grip) : lenA Tryz.prog 56 s (.sl xs m g) = some (.int .i64 (m : Int)) := by simp only [lenA, tk33]
theorem ia33 (s : St) (xs : List AV) (m : Nat) (g : Grip) (i : Nat) (h : i < m) : indexAddrA Tryz.prog 56 s (.sl xs m g) (.int .i64 (i : Int)) = some (.rptr (xs.drop i)) := by
  simp only [indexAddrA, tk33, eszTi, Option.bind_some, Int.toNat_natCast, Nat.mul_one]
  rw [if_pos ⟨by omega, by omega⟩]
theorem ld33 (s : St) (x : AV) (r : List AV) : loadA Tryz.prog 3 s (.rptr (x :: r)) = some x := by
  simp only [loadA, partA, shTi]
  rfl
theorem orI_eq (n d : Nat) (hn : 3 ≤ n) (x y : Int) (g : Grip) : evalFn Tryz.prog cfg0 n (d+1) 127 [.tree (.sl [.int .i64 x, .int .i64 y] 2 g)] = some (.tree (.int .i64 (or2 x y)), [[]]) := by
  rw [evalFn_go _ Tryz.func127 (by unfold Tryz.f127; rfl) (by unfold Tryz.f127; decide) (Nat.le_of_ble_eq_true (by unfold Tryz.f127; rfl)) (by kernel_rfl)]
  simp only [simB, zbo, Nat.reduceBEq, own0, ↓reduceIte, Nat.reduceEqDiff, Nat.reduceAdd, simA, simL, len33, den_loop]
  refine loop_ends (X := Nat) (fun i env s => env 3 = .int .i64 0 ∧ env 6 = .sl [.int .i64 x, .int .i64 y] 2 g ∧ env 7 = .int .i64 2 ∧ env 8 = .int .i64 (i : Int) ∧ i ≤ 2 ∧ (0 < i → x = 0) ∧ (1 < i → y = 0)) (fun i => 2 - i) (fun _ => (.tree (.int .i64 (or2 x y)), [[]])) ?_ n 0 _ _ (by omega) ⟨(by simp only [zfr, ↓reduceIte, Nat.reduceEqDiff]; try rfl), (by simp only [zfr, ↓reduceIte, Nat.reduceEqDiff]; try rfl), (by simp only [zfr, ↓reduceIte, Nat.reduceEqDiff]; try rfl), (by simp only [zfr, ↓reduceIte, Nat.reduceEqDiff]; try rfl), by omega, by intro h; omega, by intro h; omega⟩
  intro k i hx ih env st ⟨e3, e6, e7, e8, hi, h0, h1⟩
  have hc : i = 0 ∨ i = 1 ∨ i = 2 := by omega
  rcases hc with rfl | rfl | rfl
  · have q1 : ((0 : Nat) : Int) < 2 := by decide
    have ia := fun st => ia33 st [.int .i64 x, .int .i64 y] 2 g 0 (by decide)
    simp only [List.drop_zero] at ia
    have f5 := i_add Tryz.prog 3 ((0 : Nat) : Int) 1 (by decide) (by decide)
    by_cases g0 : x = 0
    · have g' : (x != 0) = false := by rw [g0]; rfl
      simp only [simB, zbo, Nat.reduceBEq, own0, ↓reduceIte, Nat.reduceEqDiff, Nat.reduceAdd, simL, e3, e6, e7, e8, q1, ia, ld33, g', f5]
      exact ih 1 _ _ (by omega) rfl ⟨(by simp only [zfr, ↓reduceIte, Nat.reduceEqDiff, e3]; try rfl), (by simp only [zfr, ↓reduceIte, Nat.reduceEqDiff, e6]; try rfl), (by simp only [zfr, ↓reduceIte, Nat.reduceEqDiff, e7]; try rfl), (by simp only [zfr, ↓reduceIte, Nat.reduceEqDiff]; try rfl), by omega, fun _ => g0, fun h => by omega⟩
    · have g' : (x != 0) = true := by rw [bne_iff_ne]; exact g0
      have hr : or2 x y = x := if_neg g0
      rw [hr]
      simp only [simB, zbo, Nat.reduceBEq, own0, ↓reduceIte, Nat.reduceEqDiff, Nat.reduceAdd, simL, e3, e6, e7, e8, q1, ia, ld33, g', f5]
      exact finish_i _ _ _ _ _ _ _ (by simp only [zfr, ↓reduceIte, Nat.reduceEqDiff]; try rfl) rfl
  · have q1 : ((1 : Nat) : Int) < 2 := by decide
    have ia := fun st => ia33 st [.int .i64 x, .int .i64 y] 2 g 1 (by decide)
    simp only [List.drop_succ_cons, List.drop_zero] at ia
    have f5 := i_add Tryz.prog 3 ((1 : Nat) : Int) 1 (by decide) (by decide)
    have gx := h0 (by decide)
    by_cases g0 : y = 0
    · have g' : (y != 0) = false := by rw [g0]; rfl
      simp only [simB, zbo, Nat.reduceBEq, own0, ↓reduceIte, Nat.reduceEqDiff, Nat.reduceAdd, simL, e3, e6, e7, e8, q1, ia, ld33, g', f5]
      exact ih 2 _ _ (by omega) rfl ⟨(by simp only [zfr, ↓reduceIte, Nat.reduceEqDiff, e3]; try rfl), (by simp only [zfr, ↓reduceIte, Nat.reduceEqDiff, e6]; try rfl), (by simp only [zfr, ↓reduceIte, Nat.reduceEqDiff, e7]; try rfl), (by simp only [zfr, ↓reduceIte, Nat.reduceEqDiff]; try rfl), by omega, fun _ => gx, fun h => g0⟩
    · have g' : (y != 0) = true := by rw [bne_iff_ne]; exact g0
      have hr : or2 x y = y := if_pos gx
      rw [hr]
      simp only [simB, zbo, Nat.reduceBEq, own0, ↓reduceIte, Nat.reduceEqDiff, Nat.reduceAdd, simL, e3, e6, e7, e8, q1, ia, ld33, g', f5]
      exact finish_i _ _ _ _ _ _ _ (by simp only [zfr, ↓reduceIte, Nat.reduceEqDiff]; try rfl) rfl
  · have q1 : ¬ ((2 : Nat) : Int) < 2 := by decide
    have hr : or2 x y = 0 := by rw [or2, if_pos (h0 (by decide))]; exact h1 (by decide)
    rw [hr]
    simp only [simB, zbo, Nat.reduceBEq, own0, ↓reduceIte, Nat.reduceEqDiff, Nat.reduceAdd, simL, e3, e6, e7, e8, q1]
    exact finish_i _ _ _ _ _ _ _ (by simp only [zfr, ↓reduceIte, Nat.reduceEqDiff]; try rfl) rfl
theorem rkx1 (d : Nat) : evalFn Tryz.prog cfg0 100000 (d+2) 124 [.tree (.int .i64 1)] = some (.tree (.int .i64 0), [[]]) := by kernel_rfl
theorem rkx2 (d : Nat) : evalFn Tryz.prog cfg0 100000 (d+2) 124 [.tree (.int .i64 2)] = some (.tree (.int .i64 1), [[]]) := by kernel_rfl
theorem rkx3 (d : Nat) : evalFn Tryz.prog cfg0 100000 (d+2) 124 [.tree (.int .i64 3)] = some (.tree (.int .i64 4), [[]]) := by kernel_rfl
theorem rkx4 (d : Nat) : evalFn Tryz.prog cfg0 100000 (d+2) 124 [.tree (.int .i64 4)] = some (.tree (.int .i64 5), [[]]) := by kernel_rfl
theorem rkx5 (d : Nat) : evalFn Tryz.prog cfg0 100000 (d+2) 124 [.tree (.int .i64 5)] = some (.tree (.int .i64 3), [[]]) := by kernel_rfl
theorem rkx6 (d : Nat) : evalFn Tryz.prog cfg0 100000 (d+2) 124 [.tree (.int .i64 6)] = some (.tree (.int .i64 6), [[]]) := by kernel_rfl
theorem finish_cT (k : Bool) (xs : List Arg) (a p e : Nat) (u : T) (env : Env) (s : St) (os : List (List AV)) (ha : env a = .ptr p e 0) (hs : s p = ⟨e, .buf (cellsT u)⟩) (ho : outsA s 0 xs = some os) :
    finishP Tryz.prog k xs #[.cell a 29] env s = some (.tree (encT u), os) := by
  have hl : loadA Tryz.prog 29 s (env a) = some (.agg (cellsT u)) := by rw [ha, zeo, hs, ldT_u, if_pos rfl]
  simp [finishP, isTmpR, hl, settle, ho, encT]
theorem kid_eq (n d : Nat) (k : Int) (b : Bool) (lg : Gk) (l : List Nat) (s : List UInt8) (m : Int) (kg : Gk) (ks : List T) (i : Nat) (t : T) (r : List T) (hi : ks.drop i = t :: r) :
    evalFn Tryz.prog cfg0 n (d+1) 122 [.tree (encT (.mk k b lg l s m kg ks)), .tree (.int .i64 (i : Int))] = some (.tree (encT t), [[], []]) := by
  rw [evalFn_go _ Tryz.func122 (by unfold Tryz.f122; rfl) (by unfold Tryz.f122; decide) (Nat.le_of_ble_eq_true (by unfold Tryz.f122; rfl)) (by kernel_rfl)]
  have hil : i < ks.length := by have := congrArg List.length hi; simp only [List.length_drop, List.length_cons] at this; omega
  have q1 : (i : Int) < (ks.length : Int) := by omega
  have ia := fun st => ia_K st ks (gr kg) i hil
  rw [hi] at ia
  have ld := fun st => ld_K st t r
  simp only [encT] at ld
  simp only [simB, zbo, Nat.reduceBEq, own0, ↓reduceIte, Nat.reduceEqDiff, Nat.reduceAdd, simA, simL, simN, Nat.zero_add, encT, cellsT, zeroT, faT_4, ldT_4, lenTk, q1, ia, ld, st_Tt, stT_6]
  exact finish_cT _ _ _ _ _ t _ _ _ (by simp only [zfr, ↓reduceIte, Nat.reduceEqDiff]; try rfl) (by simp only [zfr, ↓reduceIte, Nat.reduceEqDiff]; try rfl) rfl
end Go.Ab

/- term.Cmp upon terms that may be. Conditions: terms that may be; so many nodes at most. -/
namespace Go.Ab
open Go.Proofs
set_option maxRecDepth 100000
set_option linter.unusedSimpArgs false

mutual
def goodT : T → Prop
  | .mk k b lg l s n kg ks => Limbs l ∧ ownT (.mk k b lg l s n kg ks) = true ∧ goodK ks
def goodK : List T → Prop
  | [] => True
  | t :: r => goodT t ∧ goodK r
end
def kindT : T → Int
  | .mk k _ _ _ _ _ _ _ => k
def numT : T → Int
  | .mk _ b _ l _ _ _ _ => numZ b l
def strT : T → List UInt8
  | .mk _ _ _ _ s _ _ _ => s
def kidsT : T → List T
  | .mk _ _ _ _ _ _ _ ks => ks
theorem or2_0 {a b : Int} (h : a = 0) : or2 a b = b := if_pos h
theorem or2_n {a b : Int} (h : a ≠ 0) : or2 a b = a := if_neg h
end Go.Ab

/- term.Cmp upon terms that may be, walked. Conditions: terms that may be; so many nodes at most. -/
namespace Go.Ab
open Go.Proofs
set_option maxRecDepth 100000
set_option linter.unusedSimpArgs false

end Go.Ab

/- term.Same, walked. Conditions: so many limbs, nodes at most. -/
namespace Go.Ab
open Go.Proofs
set_option maxRecDepth 100000
set_option linter.unusedSimpArgs false

theorem eqLG_eq (n d : Nat) (b b' : Gk) (l m : List Nat) (hn : l.length < n) (hk : l.length ≤ 1000000) : evalFn Tryz.prog cfg0 n (d+1) 140 [.tree (encL b l), .tree (encL b' m)] = some (.tree (.bool (decide (l = m))), [[], []]) := by
  rw [evalFn_go _ Tryz.func140 (by unfold Tryz.f140; rfl) (by unfold Tryz.f140; decide) (Nat.le_of_ble_eq_true (by unfold Tryz.f140; rfl)) (by kernel_rfl)]
  by_cases hlm : l.length = m.length
  · have p1 : ((l.length : Int) != (m.length : Int)) = false := by rw [hlm]; exact bne_self_eq_false _
    simp only [simB, zbo, Nat.reduceBEq, own0, ↓reduceIte, Nat.reduceEqDiff, Nat.reduceAdd, simA, simL, p1, den_loop]
    refine loop_ends (X := Nat) (fun i env _ => env 0 = encL b l ∧ env 1 = encL b' m ∧ env 12 = .int .i64 (l.length : Int) ∧ env 13 = .int .i64 (i : Int) ∧ i ≤ l.length ∧ (l.drop i = m.drop i ↔ l = m)) (fun i => l.length - i) (fun _ => (.tree (.bool (decide (l = m))), [[], []])) ?_ n 0 _ _ (by omega) ⟨(by simp only [zfr, ↓reduceIte, Nat.reduceEqDiff, env0, List.getElem?_cons_zero, List.getElem?_cons_succ]; try rfl), (by simp only [zfr, ↓reduceIte, Nat.reduceEqDiff, env0, List.getElem?_cons_zero, List.getElem?_cons_succ]; try rfl), (by simp only [zfr, ↓reduceIte, Nat.reduceEqDiff]; try rfl), (by simp only [zfr, ↓reduceIte, Nat.reduceEqDiff]; try rfl), Nat.zero_le _, Iff.rfl⟩
    intro k i hx ih env s ⟨h0, h1, h2, h5, hi, hd⟩
    by_cases hp : i = l.length
    · have e : l = m := by
        rw [← hd, hp, List.drop_length, hlm, List.drop_length]
      rw [decide_eq_true e]
      have q1 : ¬ ((i : Int) < (l.length : Int)) := by omega
      simp only [simB, zbo, Nat.reduceBEq, own0, ↓reduceIte, Nat.reduceEqDiff, Nat.reduceAdd, simL, h0, h1, h2, h5, q1]
      exact finish_b _ _ _ _ _ _ _ (by simp only [zfr, ↓reduceIte, Nat.reduceEqDiff]; try rfl) rfl
    · have q1 : (i : Int) < (l.length : Int) := by omega
      have q2 : (0 : Int) ≤ (i : Int) := by omega
      have q3 : i < l.length := by omega
      have q4 : i < m.length := by omega
      have q5 : (i : Int) < (m.length : Int) := by omega
      have f4 := i_add Tryz.prog 3 (i : Int) 1 (by omega) (by omega)
      have dl : l.drop i = l.getD i 0 :: l.drop (i + 1) := by rw [List.getD_eq_getElem?_getD, List.getElem?_eq_getElem q3]; exact List.drop_eq_getElem_cons q3
      have dm : m.drop i = m.getD i 0 :: m.drop (i + 1) := by rw [List.getD_eq_getElem?_getD, List.getElem?_eq_getElem q4]; exact List.drop_eq_getElem_cons q4
      rw [dl, dm, List.cons.injEq] at hd
      by_cases g : l.getD i 0 = m.getD i 0
      · have p2 : ((l.getD i 0 : Int) != (m.getD i 0 : Int)) = false := by rw [g]; exact bne_self_eq_false _
        simp only [simB, zbo, Nat.reduceBEq, own0, ↓reduceIte, Nat.reduceEqDiff, Nat.reduceAdd, simL, h0, h1, h2, h5, q1, q2, q3, q4, q5, Int.toNat_natCast, p2, f4]
        exact ih (i + 1) _ _ (by omega) rfl ⟨(by simp only [zfr, ↓reduceIte, Nat.reduceEqDiff, h0]; try rfl), (by simp only [zfr, ↓reduceIte, Nat.reduceEqDiff, h1]; try rfl), (by simp only [zfr, ↓reduceIte, Nat.reduceEqDiff, h2]; try rfl), (by simp only [zfr, ↓reduceIte, Nat.reduceEqDiff]; try rfl), by omega, by rw [← hd]; simp only [g, true_and]⟩
      · have p2 : ((l.getD i 0 : Int) != (m.getD i 0 : Int)) = true := by rw [bne_iff_ne]; omega
        have hne : ¬ l = m := fun e => g (hd.mpr e).1
        rw [decide_eq_false hne]
        simp only [simB, zbo, Nat.reduceBEq, own0, ↓reduceIte, Nat.reduceEqDiff, Nat.reduceAdd, simL, h0, h1, h2, h5, q1, q2, q3, q4, q5, Int.toNat_natCast, p2, f4]
        exact finish_b _ _ _ _ _ _ _ (by simp only [zfr, ↓reduceIte, Nat.reduceEqDiff]; try rfl) rfl
  · have p1 : ((l.length : Int) != (m.length : Int)) = true := by rw [bne_iff_ne]; omega
    rw [decide_eq_false (fun e => hlm (by rw [e]))]
    simp only [simB, zbo, Nat.reduceBEq, own0, ↓reduceIte, Nat.reduceEqDiff, Nat.reduceAdd, simA, simL, p1]
    exact finish_b _ _ _ _ _ _ _ (by simp only [zfr, ↓reduceIte, Nat.reduceEqDiff]; try rfl) rfl
def sgnT : T → Bool
  | .mk _ b _ _ _ _ _ _ => b
def nT : T → Int
  | .mk _ _ _ _ _ n _ _ => n
mutual
def sameT : T → T → Bool
  | .mk k b _ l s n _ ks, u => if k = kindT u then
      (if k = 1 then decide (b = sgnT u) && decide (l = limT u) else if k = 2 ∨ k = 6 then decide (s = strT u) else if k = 8 then decide (s = strT u) && decide (n = nT u) else if k = 9 then decide (n = nT u)
       else if k = 7 then decide (n = nT u) && sameK ks (kidsT u) else if k = 4 ∨ k = 5 then sameK ks (kidsT u) else true) else false
def sameK : List T → List T → Bool
  | [], [] => true
  | x :: r, y :: q => sameT x y && sameK r q
  | [], _ :: _ => false
  | _ :: _, [] => false
end
theorem sameK_len : ∀ (a b : List T), a.length ≠ b.length → sameK a b = false
  | [], [], h => absurd rfl h
  | [], _ :: _, _ => by simp only [sameK]
  | _ :: _, [], _ => by simp only [sameK]
  | x :: r, y :: q, h => by simp only [sameK]; rw [sameK_len r q (by simpa using h), Bool.and_false]
set_option maxHeartbeats 8000000 in
theorem sameF_eq (d : Nat) (us vs : List T) (ag bg : Gk) (ha : us.length < 100000)
    (h : ∀ i j x y q r, us.drop i = x :: q → vs.drop j = y :: r → evalFn Tryz.prog cfg0 100000 d 121 [.tree (encT x), .tree (encT y)] = some (.tree (.bool (sameT x y)), [[], []])) :
    evalFn Tryz.prog cfg0 100000 (d+1) 152 [.tree (.sl (cellsK us) us.length (gr ag)), .tree (.sl (cellsK vs) vs.length (gr bg)), .tree (.fn 121 [])] = some (.tree (.bool (sameK us vs)), [[], [], []]) := by
  rw [evalFn_go _ Tryz.func152 (by unfold Tryz.f152; rfl) (by unfold Tryz.f152; decide) (Nat.le_of_ble_eq_true (by unfold Tryz.f152; rfl)) (by kernel_rfl)]
  by_cases hl : us.length = vs.length
  case neg =>
    have p1 : ((us.length : Int) != (vs.length : Int)) = true := by rw [bne_iff_ne]; omega
    rw [sameK_len us vs hl]
    simp only [simB, zbo, Nat.reduceBEq, own0, ↓reduceIte, Nat.reduceEqDiff, Nat.reduceAdd, simA, simL, lenTk, p1]
    exact finish_b _ _ _ _ _ _ _ (by simp only [zfr, ↓reduceIte, Nat.reduceEqDiff]; try rfl) rfl
  have p1 : ((us.length : Int) != (vs.length : Int)) = false := by rw [hl]; exact bne_self_eq_false _
  simp only [simB, zbo, Nat.reduceBEq, own0, ↓reduceIte, Nat.reduceEqDiff, Nat.reduceAdd, simA, simL, lenTk, p1, den_loop]
  refine loop_ends (X := Nat) (fun i env s => env 0 = .sl (cellsK us) us.length (gr ag) ∧ env 1 = .sl (cellsK vs) vs.length (gr bg) ∧ env 2 = .fn 121 [] ∧ env 15 = .sl (cellsK us) us.length (gr ag) ∧ env 16 = .int .i64 (us.length : Int) ∧ env 17 = .int .i64 (i : Int) ∧ i ≤ us.length ∧ sameK (us.drop i) (vs.drop i) = sameK us vs) (fun i => us.length - i) (fun _ => (.tree (.bool (sameK us vs)), [[], [], []])) ?_ 100000 0 _ _ (by omega) ⟨(by simp only [zfr, ↓reduceIte, Nat.reduceEqDiff, env0, List.getElem?_cons_zero, List.getElem?_cons_succ]; try rfl), (by simp only [zfr, ↓reduceIte, Nat.reduceEqDiff, env0, List.getElem?_cons_zero, List.getElem?_cons_succ]; try rfl), (by simp only [zfr, ↓reduceIte, Nat.reduceEqDiff, env0, List.getElem?_cons_zero, List.getElem?_cons_succ]; try rfl), (by simp only [zfr, ↓reduceIte, Nat.reduceEqDiff]; try rfl), (by simp only [zfr, ↓reduceIte, Nat.reduceEqDiff]; try rfl), (by simp only [zfr, ↓reduceIte, Nat.reduceEqDiff]; try rfl), Nat.zero_le _, rfl⟩
  intro k i hx ih env st ⟨e0, e1, e2, e11, e12, e13, hi, hc⟩
  cases hda : us.drop i with
  | nil =>
    have hil : i = us.length := by have := congrArg List.length hda; simp only [List.length_drop, List.length_nil] at this; omega
    have q1 : ¬ ((i : Int) < (us.length : Int)) := by omega
    have hdb : vs.drop i = [] := List.drop_eq_nil_of_le (by omega)
    rw [hda, hdb] at hc
    simp only [sameK] at hc
    rw [← hc]
    simp only [simB, zbo, Nat.reduceBEq, own0, ↓reduceIte, Nat.reduceEqDiff, Nat.reduceAdd, simL, e0, e1, e2, e11, e12, e13, q1]
    exact finish_b _ _ _ _ _ _ _ (by simp only [zfr, ↓reduceIte, Nat.reduceEqDiff]; try rfl) rfl
  | cons x q =>
    have hil : i < us.length := by have := congrArg List.length hda; simp only [List.length_drop, List.length_cons] at this; omega
    have hjl : i < vs.length := by omega
    have q1 : (i : Int) < (us.length : Int) := by omega
    have ia := fun st => ia_K st us (gr ag) i hil
    rw [hda] at ia hc
    have ld := fun st => ld_K st x q
    simp only [encT] at ld
    cases hdb : vs.drop i with
    | nil => have := congrArg List.length hdb; simp only [List.length_drop, List.length_nil] at this; omega
    | cons y r =>
      have ib := fun st => ia_K st vs (gr bg) i hjl
      rw [hdb] at ib hc
      have ldb := fun st => ld_K st y r
      simp only [encT] at ldb
      simp only [sameK] at hc
      have cc := fun D st => callA_trees (cfg := cfg0) (d := D) (s := st) (f := 121) (vs := [encT x, encT y]) rfl (h i i x y q r hda hdb)
      simp only [encT] at cc
      have f5 := i_add Tryz.prog 3 (i : Int) 1 (by omega) (by omega)
      cases g : sameT x y with
      | true =>
        rw [g, Bool.true_and] at hc
        rw [g] at cc
        simp only [simB, zbo, Nat.reduceBEq, own0, ↓reduceIte, Nat.reduceEqDiff, Nat.reduceAdd, simL, simN, Nat.zero_add, simV, e0, e1, e2, e11, e12, e13, q1, lenTk, ia, ib, ld, ldb, zeroT, st_Tt, stT_6, ldT_u, cc, unA_not', Bool.not_true, f5]
        exact ih (i + 1) _ _ (by omega) rfl ⟨(by simp only [zfr, ↓reduceIte, Nat.reduceEqDiff, e0]; try rfl), (by simp only [zfr, ↓reduceIte, Nat.reduceEqDiff, e1]; try rfl), (by simp only [zfr, ↓reduceIte, Nat.reduceEqDiff, e2]; try rfl), (by simp only [zfr, ↓reduceIte, Nat.reduceEqDiff, e11]; try rfl), (by simp only [zfr, ↓reduceIte, Nat.reduceEqDiff, e12]; try rfl), (by simp only [zfr, ↓reduceIte, Nat.reduceEqDiff]; try rfl), by omega, by rw [drop_next hda, drop_next hdb]; exact hc⟩
      | false =>
        rw [g, Bool.false_and] at hc
        rw [g] at cc
        rw [← hc]
        simp only [simB, zbo, Nat.reduceBEq, own0, ↓reduceIte, Nat.reduceEqDiff, Nat.reduceAdd, simL, simN, Nat.zero_add, simV, e0, e1, e2, e11, e12, e13, q1, lenTk, ia, ib, ld, ldb, zeroT, st_Tt, stT_6, ldT_u, cc, unA_not', Bool.not_false, f5]
        exact finish_b _ _ _ _ _ _ _ (by simp only [zfr, ↓reduceIte, Nat.reduceEqDiff]; try rfl) rfl
theorem isTree_K (g : Gk) (ks : List T) : isTree (.sl (cellsK ks) ks.length (gr g)) = true := by cases g <;> rfl
theorem all_eq (d : Nat) (us vs : List T) (ag bg : Gk) (ha : us.length < 100000)
    (h : ∀ i j x y q r, us.drop i = x :: q → vs.drop j = y :: r → evalFn Tryz.prog cfg0 100000 d 121 [.tree (encT x), .tree (encT y)] = some (.tree (.bool (sameT x y)), [[], []])) :
    evalFn Tryz.prog cfg0 100000 (d+2) 141 [.tree (.sl (cellsK us) us.length (gr ag)), .tree (.sl (cellsK vs) vs.length (gr bg))] = some (.tree (.bool (sameK us vs)), [[], []]) := by
  rw [evalFn_go _ Tryz.func141 (by unfold Tryz.f141; rfl) (by unfold Tryz.f141; decide) (Nat.le_of_ble_eq_true (by unfold Tryz.f141; rfl)) (by kernel_rfl)]
  have hf := sameF_eq d us vs ag bg ha h
  have c1 := fun D st => callA_trees (cfg := cfg0) (d := D) (s := st) (f := 152) (vs := [.sl (cellsK us) us.length (gr ag), .sl (cellsK vs) vs.length (gr bg), .fn 121 []]) (by simp only [List.all_cons, isTree_K, Bool.true_and]; rfl) hf
  simp only [simB, zbo, Nat.reduceBEq, own0, ↓reduceIte, Nat.reduceEqDiff, Nat.reduceAdd, simA, simL, c1]
  exact finish_b _ _ _ _ _ _ _ (by simp only [zfr, ↓reduceIte, Nat.reduceEqDiff]; try rfl) rfl
theorem ldB_1 (t k : Nat) (a b c d e f : AV) : ldE Tryz.prog 4 ⟨t, .buf [a, b, c, d, e, f]⟩ k 1 = if t = k then some b else none := by
  rw [ldE_buf, cellsE_buf]
  by_cases h : t = k
  · simp [h, partA, sh4]
  · simp [h]
theorem ldB_2 (t k : Nat) (a b c d e f : AV) : ldE Tryz.prog 25 ⟨t, .buf [a, b, c, d, e, f]⟩ k 2 = if t = k then some c else none := by
  rw [ldE_buf, cellsE_buf]
  by_cases h : t = k
  · simp [h, partA, sh22]
  · simp [h]
theorem strEq (a b : List UInt8) : (a == b) = decide (a = b) := by rw [Bool.eq_iff_iff, beq_iff_eq, decide_eq_true_eq]
theorem intEq (x y : Int) : (x == y) = decide (x = y) := by rw [Bool.eq_iff_iff, beq_iff_eq, decide_eq_true_eq]
mutual
def fewT (m : Nat) : T → Prop
  | .mk _ _ _ l _ _ _ ks => l.length < m ∧ ks.length < m ∧ fewK m ks
def fewK (m : Nat) : List T → Prop
  | [] => True
  | t :: r => fewT m t ∧ fewK m r
end
theorem fewK_at (m : Nat) : ∀ (ks : List T) (i : Nat) (t : T) (r : List T), ks.drop i = t :: r → fewK m ks → fewT m t
  | [], i, t, r, h, _ => by simp at h
  | a :: q, 0, t, r, h, hw => by simp only [List.drop_zero, List.cons.injEq] at h; obtain ⟨rfl, rfl⟩ := h; simp only [fewK] at hw; exact hw.1
  | a :: q, i + 1, t, r, h, hw => by simp only [fewK] at hw; exact fewK_at m q i t r (by simpa using h) hw.2
set_option maxHeartbeats 32000000 in
theorem tsame_eq : ∀ (d D : Nat) (a0 b0 : T), htT a0 ≤ d → 3 * d ≤ D → fewT 100000 a0 →
    evalFn Tryz.prog cfg0 100000 D 121 [.tree (encT a0), .tree (encT b0)] = some (.tree (.bool (sameT a0 b0)), [[], []])
  | 0, _, a0, b0, hd, _, hn => by obtain ⟨k, b, lg, l, s, m, kg, ks⟩ := a0; simp only [htT] at hd; omega
  | d + 1, D, a0, b0, hd, hD, hn => by
    obtain ⟨m, rfl⟩ : ∃ m, D = m + 3 := ⟨D - 3, by omega⟩
    have IH := fun D h a b h1 h2 => tsame_eq d D a b h1 h h2
    rw [evalFn_go _ Tryz.func121 (by unfold Tryz.f121; rfl) (by unfold Tryz.f121; decide) (Nat.le_of_ble_eq_true (by unfold Tryz.f121; rfl)) (by kernel_rfl)]
    obtain ⟨k, n1, lg, l, s, i1, kg, ks⟩ := a0
    obtain ⟨k', n2, lg', l', s', i2, kg', ks'⟩ := b0
    have hf : l.length < 100000 ∧ ks.length < 100000 ∧ fewK 100000 ks := by simp only [fewT] at hn; exact hn
    have hhk : htK ks ≤ d := by simp only [htT] at hd; omega
    have c1 := fun D st => callA_trees (cfg := cfg0) (d := D) (s := st) (f := 140) (vs := [encL lg l, encL lg' l']) (by cases lg <;> cases lg' <;> rfl) (eqLG_eq 100000 (m+1) lg lg' l l' hf.1 (by omega))
    have eb := bool_eql 4 tk4
    have ha := all_eq m ks ks' kg kg' hf.2.1 (fun i j x y q r h1 h2 => IH m (by omega) x y (by have := kids_ht ks i x q h1; omega) (fewK_at _ ks i x q h1 hf.2.2))
    have c2 := fun D st => callA_trees (cfg := cfg0) (d := D) (s := st) (f := 141) (vs := [.sl (cellsK ks) ks.length (gr kg), .sl (cellsK ks') ks'.length (gr kg')]) (by simp only [List.all_cons, isTree_K, Bool.true_and]; rfl) ha
    by_cases hk : k = k'
    case neg =>
      have p1 : (k != k') = true := by rw [bne_iff_ne]; exact hk
      have hr : sameT (.mk k n1 lg l s i1 kg ks) (.mk k' n2 lg' l' s' i2 kg' ks') = false := by first | (simp [sameT, kindT, sgnT, limT, strT, nT, kidsT, hk]; done) | (simp [sameT, kindT, sgnT, limT, strT, nT, kidsT, hk]; rfl)
      rw [hr]
      simp only [simB, zbo, Nat.reduceBEq, own0, ↓reduceIte, Nat.reduceEqDiff, Nat.reduceAdd, simA, simL, simN, Nat.zero_add, encT, cellsT, faT_0, ldT_0, p1]
      exact finish_b _ _ _ _ _ _ _ (by simp only [zfr, ↓reduceIte, Nat.reduceEqDiff]; try rfl) rfl
    subst hk
    have iq : (i1 == i2) = decide (i1 = i2) := intEq _ _
    have p1 : (k != k) = false := bne_self_eq_false _
    have iq : (i1 == i2) = decide (i1 = i2) := intEq _ _
    by_cases h1 : k = 1
    · subst h1
      have hr : sameT (.mk 1 n1 lg l s i1 kg ks) (.mk 1 n2 lg' l' s' i2 kg' ks') = (decide (n1 = n2) && decide (l = l')) := by first | (simp [sameT, kindT, sgnT, limT, strT, nT, kidsT]; done) | (simp [sameT, kindT, sgnT, limT, strT, nT, kidsT]; rfl)
      by_cases g : n1 = n2
      · have g' : (n1 == n2) = true := beq_iff_eq.mpr g
        rw [hr, decide_eq_true g, Bool.true_and]
        simp only [simB, zbo, Nat.reduceBEq, own0, ↓reduceIte, Nat.reduceEqDiff, Nat.reduceAdd, simA, simL, simN, Nat.zero_add, encT, cellsT, faT_0, faT_1, faT_2, faT_3, faT_4, faN_0, faN_1, ldT_0, ldT_2, ldT_3, ldT_4, ldB_1, ldB_2, Nat.reduceAdd, p1, i_eqlV, Int.reduceBEq, eb, g', c1]
        exact finish_b _ _ _ _ _ _ _ (by simp only [zfr, ↓reduceIte, Nat.reduceEqDiff]; try rfl) rfl
      · have g' : (n1 == n2) = false := beq_eq_false_iff_ne.mpr g
        rw [hr, decide_eq_false g, Bool.false_and]
        simp only [simB, zbo, Nat.reduceBEq, own0, ↓reduceIte, Nat.reduceEqDiff, Nat.reduceAdd, simA, simL, simN, Nat.zero_add, encT, cellsT, faT_0, faT_1, faT_2, faT_3, faT_4, faN_0, faN_1, ldT_0, ldT_2, ldT_3, ldT_4, ldB_1, ldB_2, Nat.reduceAdd, p1, i_eqlV, Int.reduceBEq, eb, g', c1]
        exact finish_b _ _ _ _ _ _ _ (by simp only [zfr, ↓reduceIte, Nat.reduceEqDiff]; try rfl) rfl
    have b1 : (k == 1) = false := beq_eq_false_iff_ne.mpr h1
    by_cases h6 : k = 6
    · subst h6
      have hr : sameT (.mk 6 n1 lg l s i1 kg ks) (.mk 6 n2 lg' l' s' i2 kg' ks') = decide (s = s') := by first | (simp [sameT, kindT, sgnT, limT, strT, nT, kidsT]; done) | (simp [sameT, kindT, sgnT, limT, strT, nT, kidsT]; rfl)
      rw [hr]
      simp only [simB, zbo, Nat.reduceBEq, own0, ↓reduceIte, Nat.reduceEqDiff, Nat.reduceAdd, simA, simL, simN, Nat.zero_add, encT, cellsT, faT_0, faT_1, faT_2, faT_3, faT_4, faN_0, faN_1, ldT_0, ldT_2, ldT_3, ldT_4, ldB_1, ldB_2, Nat.reduceAdd, p1, i_eqlV, Int.reduceBEq, s_eqlS, strEq]
      exact finish_b _ _ _ _ _ _ _ (by simp only [zfr, ↓reduceIte, Nat.reduceEqDiff]; try rfl) rfl
    have b6 : (k == 6) = false := beq_eq_false_iff_ne.mpr h6
    by_cases h2 : k = 2
    · subst h2
      have hr : sameT (.mk 2 n1 lg l s i1 kg ks) (.mk 2 n2 lg' l' s' i2 kg' ks') = decide (s = s') := by first | (simp [sameT, kindT, sgnT, limT, strT, nT, kidsT]; done) | (simp [sameT, kindT, sgnT, limT, strT, nT, kidsT]; rfl)
      rw [hr]
      simp only [simB, zbo, Nat.reduceBEq, own0, ↓reduceIte, Nat.reduceEqDiff, Nat.reduceAdd, simA, simL, simN, Nat.zero_add, encT, cellsT, faT_0, faT_1, faT_2, faT_3, faT_4, faN_0, faN_1, ldT_0, ldT_2, ldT_3, ldT_4, ldB_1, ldB_2, Nat.reduceAdd, p1, i_eqlV, Int.reduceBEq, s_eqlS, strEq]
      exact finish_b _ _ _ _ _ _ _ (by simp only [zfr, ↓reduceIte, Nat.reduceEqDiff]; try rfl) rfl
    have b2 : (k == 2) = false := beq_eq_false_iff_ne.mpr h2
    by_cases h8 : k = 8
    · subst h8
      have hr : sameT (.mk 8 n1 lg l s i1 kg ks) (.mk 8 n2 lg' l' s' i2 kg' ks') = (decide (s = s') && decide (i1 = i2)) := by first | (simp [sameT, kindT, sgnT, limT, strT, nT, kidsT]; done) | (simp [sameT, kindT, sgnT, limT, strT, nT, kidsT]; rfl)
      by_cases g : s = s'
      · have g' : (s == s') = true := beq_iff_eq.mpr g
        rw [hr, decide_eq_true g, Bool.true_and]
        simp only [simB, zbo, Nat.reduceBEq, own0, ↓reduceIte, Nat.reduceEqDiff, Nat.reduceAdd, simA, simL, simN, Nat.zero_add, encT, cellsT, faT_0, faT_1, faT_2, faT_3, faT_4, faN_0, faN_1, ldT_0, ldT_2, ldT_3, ldT_4, ldB_1, ldB_2, Nat.reduceAdd, p1, i_eqlV, Int.reduceBEq, eb, g', s_eqlS, iq]
        exact finish_b _ _ _ _ _ _ _ (by simp only [zfr, ↓reduceIte, Nat.reduceEqDiff]; try rfl) rfl
      · have g' : (s == s') = false := beq_eq_false_iff_ne.mpr g
        rw [hr, decide_eq_false g, Bool.false_and]
        simp only [simB, zbo, Nat.reduceBEq, own0, ↓reduceIte, Nat.reduceEqDiff, Nat.reduceAdd, simA, simL, simN, Nat.zero_add, encT, cellsT, faT_0, faT_1, faT_2, faT_3, faT_4, faN_0, faN_1, ldT_0, ldT_2, ldT_3, ldT_4, ldB_1, ldB_2, Nat.reduceAdd, p1, i_eqlV, Int.reduceBEq, eb, g', s_eqlS, iq]
        exact finish_b _ _ _ _ _ _ _ (by simp only [zfr, ↓reduceIte, Nat.reduceEqDiff]; try rfl) rfl
    have b8 : (k == 8) = false := beq_eq_false_iff_ne.mpr h8
    by_cases h9 : k = 9
    · subst h9
      have hr : sameT (.mk 9 n1 lg l s i1 kg ks) (.mk 9 n2 lg' l' s' i2 kg' ks') = decide (i1 = i2) := by first | (simp [sameT, kindT, sgnT, limT, strT, nT, kidsT]; done) | (simp [sameT, kindT, sgnT, limT, strT, nT, kidsT]; rfl)
      rw [hr]
      simp only [simB, zbo, Nat.reduceBEq, own0, ↓reduceIte, Nat.reduceEqDiff, Nat.reduceAdd, simA, simL, simN, Nat.zero_add, encT, cellsT, faT_0, faT_1, faT_2, faT_3, faT_4, faN_0, faN_1, ldT_0, ldT_2, ldT_3, ldT_4, ldB_1, ldB_2, Nat.reduceAdd, p1, i_eqlV, Int.reduceBEq, iq]
      exact finish_b _ _ _ _ _ _ _ (by simp only [zfr, ↓reduceIte, Nat.reduceEqDiff]; try rfl) rfl
    have b9 : (k == 9) = false := beq_eq_false_iff_ne.mpr h9
    by_cases h7 : k = 7
    · subst h7
      have hr : sameT (.mk 7 n1 lg l s i1 kg ks) (.mk 7 n2 lg' l' s' i2 kg' ks') = (decide (i1 = i2) && sameK ks ks') := by first | (simp [sameT, kindT, sgnT, limT, strT, nT, kidsT]; done) | (simp [sameT, kindT, sgnT, limT, strT, nT, kidsT]; rfl)
      by_cases g : i1 = i2
      · have g' : (i1 == i2) = true := beq_iff_eq.mpr g
        rw [hr, decide_eq_true g, Bool.true_and]
        simp only [simB, zbo, Nat.reduceBEq, own0, ↓reduceIte, Nat.reduceEqDiff, Nat.reduceAdd, simA, simL, simN, Nat.zero_add, encT, cellsT, faT_0, faT_1, faT_2, faT_3, faT_4, faN_0, faN_1, ldT_0, ldT_2, ldT_3, ldT_4, ldB_1, ldB_2, Nat.reduceAdd, p1, i_eqlV, Int.reduceBEq, eb, g', c2]
        exact finish_b _ _ _ _ _ _ _ (by simp only [zfr, ↓reduceIte, Nat.reduceEqDiff]; try rfl) rfl
      · have g' : (i1 == i2) = false := beq_eq_false_iff_ne.mpr g
        rw [hr, decide_eq_false g, Bool.false_and]
        simp only [simB, zbo, Nat.reduceBEq, own0, ↓reduceIte, Nat.reduceEqDiff, Nat.reduceAdd, simA, simL, simN, Nat.zero_add, encT, cellsT, faT_0, faT_1, faT_2, faT_3, faT_4, faN_0, faN_1, ldT_0, ldT_2, ldT_3, ldT_4, ldB_1, ldB_2, Nat.reduceAdd, p1, i_eqlV, Int.reduceBEq, eb, g', c2]
        exact finish_b _ _ _ _ _ _ _ (by simp only [zfr, ↓reduceIte, Nat.reduceEqDiff]; try rfl) rfl
    have b7 : (k == 7) = false := beq_eq_false_iff_ne.mpr h7
    by_cases h5 : k = 5
    · subst h5
      have hr : sameT (.mk 5 n1 lg l s i1 kg ks) (.mk 5 n2 lg' l' s' i2 kg' ks') = sameK ks ks' := by first | (simp [sameT, kindT, sgnT, limT, strT, nT, kidsT]; done) | (simp [sameT, kindT, sgnT, limT, strT, nT, kidsT]; rfl)
      rw [hr]
      simp only [simB, zbo, Nat.reduceBEq, own0, ↓reduceIte, Nat.reduceEqDiff, Nat.reduceAdd, simA, simL, simN, Nat.zero_add, encT, cellsT, faT_0, faT_1, faT_2, faT_3, faT_4, faN_0, faN_1, ldT_0, ldT_2, ldT_3, ldT_4, ldB_1, ldB_2, Nat.reduceAdd, p1, i_eqlV, Int.reduceBEq, c2]
      exact finish_b _ _ _ _ _ _ _ (by simp only [zfr, ↓reduceIte, Nat.reduceEqDiff]; try rfl) rfl
    have b5 : (k == 5) = false := beq_eq_false_iff_ne.mpr h5
    by_cases h4 : k = 4
    · subst h4
      have hr : sameT (.mk 4 n1 lg l s i1 kg ks) (.mk 4 n2 lg' l' s' i2 kg' ks') = sameK ks ks' := by first | (simp [sameT, kindT, sgnT, limT, strT, nT, kidsT]; done) | (simp [sameT, kindT, sgnT, limT, strT, nT, kidsT]; rfl)
      rw [hr]
      simp only [simB, zbo, Nat.reduceBEq, own0, ↓reduceIte, Nat.reduceEqDiff, Nat.reduceAdd, simA, simL, simN, Nat.zero_add, encT, cellsT, faT_0, faT_1, faT_2, faT_3, faT_4, faN_0, faN_1, ldT_0, ldT_2, ldT_3, ldT_4, ldB_1, ldB_2, Nat.reduceAdd, p1, i_eqlV, Int.reduceBEq, c2]
      exact finish_b _ _ _ _ _ _ _ (by simp only [zfr, ↓reduceIte, Nat.reduceEqDiff]; try rfl) rfl
    have b4 : (k == 4) = false := beq_eq_false_iff_ne.mpr h4
    have hr : sameT (.mk k n1 lg l s i1 kg ks) (.mk k n2 lg' l' s' i2 kg' ks') = true := by first | (simp [sameT, kindT, sgnT, limT, strT, nT, kidsT, h1, h2, h4, h5, h6, h7, h8, h9]; done) | (simp [sameT, kindT, sgnT, limT, strT, nT, kidsT, h1, h2, h4, h5, h6, h7, h8, h9]; rfl)
    rw [hr]
    simp only [simB, zbo, Nat.reduceBEq, own0, ↓reduceIte, Nat.reduceEqDiff, Nat.reduceAdd, simA, simL, simN, Nat.zero_add, encT, cellsT, faT_0, ldT_0, p1, i_eqlV, b1, b2, b4, b5, b6, b7, b8, b9]
    exact finish_b _ _ _ _ _ _ _ (by simp only [zfr, ↓reduceIte, Nat.reduceEqDiff]; try rfl) rfl
end Go.Ab

/- The document's own check of a term by itself. Conditions: limbs in range; a text shorter than the rounds. -/
namespace Go.Ab
open Go.Proofs
set_option maxRecDepth 100000
set_option linter.unusedSimpArgs false

theorem i_neqV (x y : Int) : binA Tryz.prog .neq 3 (.int .i64 x) (.int .i64 y) = some (.bool (x != y)) := rfl
end Go.Ab

/- What the abstract run gives, it gives with more rounds and more depth too. No conditions. -/
namespace Go.Ab
section
variable {P : Program} {cfg : Cfg} {call call' : FuncId → List Arg → Option Out}
def Less (call call' : FuncId → List Arg → Option Out) : Prop := ∀ f as1 r, call f as1 = some r → call' f as1 = some r
theorem callA_mono (h : Less call call') {d : Nat} {s : St} {f : FuncId} {vs : List AV} {r : AV × St} (hc : callA cfg call d s f vs = some r) : callA cfg call' d s f vs = some r := by
  unfold callA at hc ⊢
  cases ha : argsA cfg f s 0 vs with
  | none => rw [ha] at hc; cases hc
  | some as1 =>
    rw [ha] at hc
    simp only [Option.bind_some] at hc ⊢
    split at hc
    · rename_i hg
      rw [if_pos hg]
      cases hcc : call f as1 with
      | none => rw [hcc] at hc; cases hc
      | some o => rw [hcc] at hc; rw [h _ _ _ hcc]; exact hc
    · cases hc
theorem callQ_mono (h : Less call call') {f : FuncId} {vs : List AV} {r : AV} (hc : callQ call f vs = some r) : callQ call' f vs = some r := by
  unfold callQ at hc ⊢
  split at hc
  · rename_i hg
    rw [if_pos hg]
    cases hcc : call f (vs.map .tree) with
    | none => rw [hcc] at hc; cases hc
    | some o => rw [hcc] at hc; rw [h _ _ _ hcc]; exact hc
  · rename_i hg
    rw [if_neg hg]
    split at hc
    · rename_i hg2
      rw [if_pos hg2]
      cases hcc : call f (vs.map fun v => .tree (loosen v)) with
      | none => rw [hcc] at hc; cases hc
      | some o => rw [hcc] at hc; rw [h _ _ _ hcc]; exact hc
    · cases hc
theorem opA_mono (h : Less call call') {q : Bool} {o : Oper} {d : Nat} {env : Env} {s : St} {r : AV × St} (hc : opA P cfg call q o d env s = some r) : opA P cfg call' q o d env s = some r := by
  obtain ⟨dst, op, ty, pos, af, g⟩ := o
  cases op with
  | call c =>
    obtain ⟨ce, as1, us⟩ := c
    cases ce with
    | value f =>
      simp only [opA] at hc ⊢
      split at hc
      · split at hc
        · rename_i hq
          rw [if_pos hq]
          split at hc
          · rename_i h0
            rw [if_pos h0]
            exact callA_mono h hc
          rename_i h0
          rw [if_neg h0]
          split at hc
          · rename_i h1
            rw [if_pos h1]
            split at hc
            · rename_i h2
              rw [if_pos h2]
              exact callA_mono h hc
            · cases hc
          · rename_i h1
            rw [if_neg h1]
            obtain ⟨v, hcc, hv⟩ := Option.map_eq_some_iff.mp hc
            rw [callQ_mono h hcc]
            exact congrArg some hv
        · rename_i hq
          rw [if_neg hq]
          exact callA_mono h hc
      · cases hc
    | builtin b => cases b <;> exact hc
    | _ => exact hc
  | _ => exact hc
theorem opsA_mono (h : Less call call') {q : Bool} {ops : Array Oper} : ∀ (l : List Oper) {env : Env} {s : St} {r : Env × St}, opsA P cfg call q ops l env s = some r → opsA P cfg call' q ops l env s = some r
  | [], env, s, r, hc => hc
  | o :: l, env, s, r, hc => by
    simp only [opsA] at hc ⊢
    cases hw : wantA ops o env with
    | none => rw [hw] at hc; cases hc
    | some b =>
      rw [hw] at hc
      cases b with
      | false => exact opsA_mono h l hc
      | true =>
        simp only at hc ⊢
        cases ho : opA P cfg call q o (o.dst.getD 0) env s with
        | none => rw [ho] at hc; cases hc
        | some x =>
          rw [ho] at hc
          rw [opA_mono h ho]
          simp only [Option.bind_some] at hc ⊢
          exact opsA_mono h l hc
def LessK (K K' : Kont) : Prop := ∀ e env s r, K e env s = some r → K' e env s = some r
theorem loopA_mono {b b' : Kont → Env → St → Option Out} (hb : ∀ K K', LessK K K' → ∀ env s r, b K env s = some r → b' K' env s = some r) {K K' : Kont} (hK : LessK K K') :
    ∀ (n n' : Nat), n ≤ n' → ∀ env s r, loopA b K n env s = some r → loopA b' K' n' env s = some r
  | 0, n', _, env, s, r, hc => by cases hc
  | n + 1, n', hn, env, s, r, hc => by
    obtain ⟨m, rfl⟩ : ∃ m, n' = m + 1 := ⟨n' - 1, by omega⟩
    simp only [loopA] at hc ⊢
    refine hb _ _ (fun e env s r h => ?_) _ _ _ hc
    cases e with
    | normal => exact loopA_mono hb hK n m (by omega) _ _ _ h
    | exit i => exact hK _ _ _ _ h
    | ret => exact hK _ _ _ _ h
theorem den_mono (h : Less call call') {n n' : Nat} (hn : n ≤ n') : ∀ (c : Code) {K K' : Kont}, LessK K K' → ∀ {env : Env} {s : St} {r : Out}, den P cfg call n c K env s = some r → den P cfg call' n' c K' env s = some r
  | .skip, K, K', hK, env, s, r, hc => hK _ _ _ _ hc
  | .label _, K, K', hK, env, s, r, hc => hK _ _ _ _ hc
  | .region _ ops draw, K, K', hK, env, s, r, hc => by
    simp only [den] at hc ⊢
    cases ho : opsA P cfg call draw ops ops.toList env (killI cfg.keep draw ops.toList s) with
    | none => rw [ho] at hc; cases hc
    | some x =>
      rw [ho] at hc
      rw [opsA_mono h _ ho]
      exact hK _ _ _ _ hc
  | .goto t, K, K', hK, env, s, r, hc => by
    simp only [den] at hc ⊢
    cases ht : env t <;> rw [ht] at hc <;> first | cases hc; done | exact hK _ _ _ _ hc
  | .seq a b, K, K', hK, env, s, r, hc => by
    simp only [den] at hc ⊢
    refine den_mono h hn a (fun e env s r hh => ?_) hc
    cases e with
    | normal => exact den_mono h hn b hK hh
    | exit i => exact hK _ _ _ _ hh
    | ret => exact hK _ _ _ _ hh
  | .cond c a b, K, K', hK, env, s, r, hc => by
    simp only [den] at hc ⊢
    cases hv : ev env c <;> rw [hv] at hc <;> try cases hc
    rename_i x
    cases x with
    | true => exact den_mono h hn a hK hc
    | false => exact den_mono h hn b hK hc
  | .scope a, K, K', hK, env, s, r, hc => by
    simp only [den] at hc ⊢
    exact den_mono h hn a hK hc
  | .block id a, K, K', hK, env, s, r, hc => by
    simp only [den] at hc ⊢
    refine den_mono h hn a (fun e env s r hh => ?_) hc
    cases e with
    | normal => exact hK _ _ _ _ hh
    | exit i =>
      simp only at hh ⊢
      split at hh
      · rename_i hi; rw [if_pos hi]; exact hK _ _ _ _ hh
      · rename_i hi; rw [if_neg hi]; exact hK _ _ _ _ hh
    | ret => exact hK _ _ _ _ hh
  | .loop a, K, K', hK, env, s, r, hc => by
    simp only [den] at hc ⊢
    exact loopA_mono (b := den P cfg call n a) (b' := den P cfg call' n' a) (fun K K' hK env s r hh => den_mono h hn a hK hh) hK n n' hn _ _ _ hc
  | .exit id, K, K', hK, env, s, r, hc => hK _ _ _ _ hc
  | .ret, K, K', hK, env, s, r, hc => hK _ _ _ _ hc
  | .rangeFunc .., K, K', hK, env, s, r, hc => by cases hc
  | .refuse _, K, K', hK, env, s, r, hc => by cases hc
theorem evalFn_mono {n n' : Nat} (hn : n ≤ n') : ∀ (d d' : Nat), d ≤ d' → Less (evalFn P cfg n d) (evalFn P cfg n' d')
  | 0, _, _, f, as1, r, hc => by cases hc
  | d + 1, d', hd, f, as1, r, hc => by
    obtain ⟨m, rfl⟩ : ∃ m, d' = m + 1 := ⟨d' - 1, by omega⟩
    simp only [evalFn] at hc ⊢
    cases hp : cfg.prim f as1 with
    | some o => rw [hp] at hc; exact hc
    | none =>
      rw [hp] at hc
      simp only at hc ⊢
      cases hf : P.funcs[f]? with
      | none => rw [hf] at hc; cases hc
      | some fn =>
        rw [hf] at hc
        simp only at hc ⊢
        cases hb : fn.body with
        | none => rw [hb] at hc; cases hc
        | some c =>
          rw [hb] at hc
          simp only at hc ⊢
          split at hc
          · rename_i hg
            rw [if_pos hg]
            exact den_mono (evalFn_mono hn d m (by omega)) hn _ (fun _ _ _ _ hh => hh) hc
          · cases hc
end
end Go.Ab

/- The document's own check of terms, walked. Conditions: limbs in range; texts shorter than the rounds. -/
namespace Go.Ab
open Go.Proofs
set_option maxRecDepth 100000
set_option linter.unusedSimpArgs false

mutual
def bigT (R : Nat) : T → Prop
  | .mk _ _ _ l s _ _ ks => Limbs l ∧ s.length < R ∧ bigK R ks
def bigK (R : Nat) : List T → Prop
  | [] => True
  | t :: r => bigT R t ∧ bigK R r
end
theorem bigK_at (R : Nat) : ∀ (ks : List T) (i : Nat) (t : T) (r : List T), ks.drop i = t :: r → bigK R ks → bigT R t
  | [], i, t, r, h, _ => by simp at h
  | a :: q, 0, t, r, h, hw => by simp only [List.drop_zero, List.cons.injEq] at h; obtain ⟨rfl, rfl⟩ := h; simp only [bigK] at hw; exact hw.1
  | a :: q, i + 1, t, r, h, hw => by simp only [bigK] at hw; exact bigK_at R q i t r (by simpa using h) hw.2
end Go.Ab

/- Terms out of a statement's reading. No conditions. -/
namespace Go.Ab
open Go.Proofs Go.RowKit Go.ChangeShapes Go.WideShapes Go.ChangeAt
set_option maxRecDepth 100000

def R0 : Nat := 9223372036854775808
theorem R0_max : maxLen < R0 := by unfold R0 maxLen; decide
theorem R0_in {n : Nat} (h : n ≤ maxLen) : n < R0 := Nat.lt_of_le_of_lt h R0_max
theorem R0_pos : 0 < R0 := by unfold R0; decide
set_option maxRecDepth 100000 in
theorem und28 : ∃ f0 f1 f2 f3 f4 : Field, Tryz.prog.underlying 29 = some (.struct #[f0, f1, f2, f3, f4]) ∧ (f0.type = 3 ∧ f1.type = 27 ∧ f2.type = 9 ∧ f3.type = 3 ∧ f4.type = 22) ∧ (f0.offset = 0 ∧ f1.offset = 1 ∧ f2.offset = 3 ∧ f3.offset = 4 ∧ f4.offset = 5) := by
  exact ⟨_, _, _, _, _, Tryz.underlying29, ⟨rfl, rfl, rfl, rfl, rfl⟩, ⟨rfl, rfl, rfl, rfl, rfl⟩⟩
theorem cells28 : Tryz.prog.cellsOf 29 = 6 := by kernel_rfl
theorem cellsOI : Tryz.prog.cellsOf 3 = 1 := by kernel_rfl
theorem cellsS : Tryz.prog.cellsOf 9 = 1 := by kernel_rfl
theorem cellsTk : Tryz.prog.cellsOf 22 = 1 := by kernel_rfl
theorem VC_app {S : Nat → Nat → Prop} {w : World} {b : Nat} : ∀ (xs ys : List AV) (o : Nat), VC S w xs b o → VC S w ys b (o + xs.length) → VC S w (xs ++ ys) b o
  | [], ys, o, _, h => by simpa using h
  | x :: xs, ys, o, h, h' => by
    simp only [List.cons_append, VC] at h ⊢
    exact ⟨h.1, h.2.1, VC_app xs ys (o + 1) h.2.2 (by rw [List.length_cons] at h'; rw [show o + 1 + xs.length = o + (xs.length + 1) by omega]; exact h')⟩
theorem VC_of_VL {S : Nat → Nat → Prop} {w : World} {b : Nat} : ∀ (xs : List AV) (vs : List Value) (o : Nat), VL S w xs vs → (∀ j v, vs[j]? = some v → S b (o + j) ∧ w.cell? ⟨b, o + j, none⟩ = some v) → VC S w xs b o
  | [], _, _, _, _ => by simp only [VC]
  | x :: xs, vs, o, h, hc => by
    simp only [VL] at h
    obtain ⟨v, r, rfl, h1, h2, h3⟩ := h
    simp only [VC]
    have h0 := hc 0 v rfl
    refine ⟨h0.1, ⟨v, h0.2, h1, h2⟩, VC_of_VL xs r (o + 1) h3 fun j u hj => ?_⟩
    have := hc (j + 1) u (by simpa using hj)
    rw [show o + (j + 1) = o + 1 + j by omega] at this
    exact this
theorem VC_terms {S : Nat → Nat → Prop} {w : World} {b : Nat} (R : Nat) : ∀ (len o : Nat), (∀ i, i < len → ∃ t, bigT R t ∧ fewT R t ∧ VC S w (cellsT t) b (o + i * 6)) → ∃ ks : List T, ks.length = len ∧ bigK R ks ∧ fewK R ks ∧ VC S w (cellsK ks) b o
  | 0, o, _ => ⟨[], rfl, by simp only [bigK], by simp only [fewK], by simp only [cellsK, VC]⟩
  | len + 1, o, h => by
    obtain ⟨t, h1, h2, h3⟩ := h 0 (by omega)
    obtain ⟨ks, k0, k1, k2, k3⟩ := VC_terms R len (o + 6) fun i hi => by
      obtain ⟨t, a1, a2, a3⟩ := h (i + 1) (by omega)
      exact ⟨t, a1, a2, by rw [show o + 6 + i * 6 = o + (i + 1) * 6 by omega]; exact a3⟩
    refine ⟨t :: ks, by simp [k0], by simp only [bigK]; exact ⟨h1, k1⟩, by simp only [fewK]; exact ⟨h2, k2⟩, ?_⟩
    simp only [cellsK]
    exact VC_app _ _ _ (by simpa using h3) (by rw [cellsT_len]; exact k3)
theorem cell_lt {w : World} {a : Addr} {v : Value} (h : w.cell? a = some v) : a.block < w.heap.size := by
  rw [World.cell?] at h
  cases hb : w.heap[a.block]? with
  | none => simp only [hb] at h; cases h
  | some o => exact (Array.getElem?_eq_some_iff.mp hb).1
theorem add_none (b o i : Nat) : (⟨b, o, none⟩ : Addr).add i = ⟨b, o + i, none⟩ := by
  unfold Addr.add
  split
  · rename_i h; rw [h]; rfl
  · rfl
theorem V0_str {S : Nat → Nat → Prop} {w : World} (s : ByteArray) : V0 S w (.str s.data.toList) (.string s) := by simp [V0]
section
variable {H : Type} {enc : TypeId × Value → H} {w : World} {base : Nat} {held : Bool}
theorem openT_cells : ∀ (fuel : Nat) (cs : List Value) (x : DataW H × List MemPlace), DataW.trod enc Tryz.prog w base (fun _ => true) held fuel 29 cs = some x →
    ∃ t : T, bigT R0 t ∧ fewT R0 t ∧ VL (old w) w (cellsT t) cs ∧ cs.length = 6
  | fuel, cs, x, h => by
    obtain ⟨f0, f1, f2, f3, f4, hu, ⟨t0, t1, t2, t3, t4⟩, ⟨o0, o1, o2, o3, o4⟩⟩ := und28
    obtain ⟨xs, n, hfu, _, hl, hxs, hf⟩ := DataW.trod_struct hu h
    rw [cells28] at hl
    match cs, hl with
    | [c0, c1, c2, c3, c4, c5], _ =>
      match xs, hxs with
      | [y0, y1, y2, y3, y4], _ =>
        have g0 := hf 0 f0 rfl
        have g1 := hf 1 f1 rfl
        have g2 := hf 2 f2 rfl
        have g3 := hf 3 f3 rfl
        have g4 := hf 4 f4 rfl
        rw [t0, o0, cellsOI] at g0
        rw [t1, o1, cells24] at g1
        rw [t2, o2, cellsS] at g2
        rw [t3, o3, cellsOI] at g3
        rw [t4, o4, cellsTk] at g4
        simp only [List.drop_zero, List.drop_succ_cons, List.take_succ_cons, List.take_zero, List.getElem?_cons_zero, List.getElem?_cons_succ] at g0 g1 g2 g3 g4
        obtain ⟨k, e0, _, _⟩ := DataW.trod_int Tryz.underlying3 g0
        obtain ⟨s, e2, _, hs⟩ := DataW.trod_string Tryz.underlying9 g2
        obtain ⟨m, e3, _, _⟩ := DataW.trod_int Tryz.underlying3 g3
        simp only [List.cons.injEq, and_true] at e0 e2 e3
        subst e0; subst e2; subst e3
        obtain ⟨n0, n1, hnu, s0, s1, p0, p1⟩ := und24
        obtain ⟨ys, n', _, _, hl2, hys, hf2⟩ := DataW.trod_struct hnu g1
        match ys, hys with
        | [z0, z1], _ =>
          have q0 := hf2 0 n0 rfl
          have q1 := hf2 1 n1 rfl
          rw [s0, p0, cells4] at q0
          rw [s1, p1, cells22] at q1
          simp only [List.drop_zero, List.drop_succ_cons, List.take_succ_cons, List.take_zero, List.getElem?_cons_zero, List.getElem?_cons_succ] at q0 q1
          obtain ⟨b, eb, _⟩ := DataW.trod_bool Tryz.underlying4 q0
          simp only [List.cons.injEq, and_true] at eb
          subst eb
          have hlim : ∃ l : List Nat, Limbs l ∧ l.length < R0 ∧ V0 (old w) w (encL .l l) c2 ∧ c2.oneCell' = true := by
            rcases open_ints Tryz.underlying25 Tryz.underlying57 (by kernel_rfl) q1 with ⟨hc, _⟩ | ⟨x, l, c, zs, hc, _, hl, hm, hz, _, hcell, hwz⟩
            · simp only [List.cons.injEq, and_true] at hc
              subst hc
              obtain ⟨l, h1, h2⟩ := limbsOf (w := w) (a := none) (len := 0) (cap := 0) (zs := []) (.inl ⟨rfl, rfl, rfl, rfl⟩)
              have hlen : l.length = 0 := by
                simp only [encL, V0] at h2
                obtain ⟨a, cap, he, _⟩ := h2
                injection he with _ h3 _
                exact h3.symm
              exact ⟨l, h1, by rw [hlen]; exact R0_in (by omega), h2, rfl⟩
            · simp only [List.cons.injEq, and_true] at hc
              subst hc
              obtain ⟨l', h1, h2⟩ := limbsOf (w := w) (a := some x) (len := l) (cap := c) (zs := zs) (.inr ⟨x, rfl, hl, hm, by simpa using hz, hcell, hwz⟩)
              have hlen : l'.length = l := by
                simp only [encL, V0] at h2
                obtain ⟨a, cap, he, _⟩ := h2
                injection he with _ h3 _
                exact h3.symm
              exact ⟨l', h1, by rw [hlen]; exact R0_in (by omega), h2, rfl⟩
          obtain ⟨l, hL, hLl, hV2, hO2⟩ := hlim
          have hkids : ∃ ks : List T, ks.length < R0 ∧ bigK R0 ks ∧ fewK R0 ks ∧ V0 (old w) w (.sl (cellsK ks) ks.length (gr .l)) c5 ∧ c5.oneCell' = true := by
            rcases DataW.trod_slice Tryz.underlying22 g4 with ⟨hc, _⟩ | ⟨a, len, cap, elems, rest, n2, hfn, hc, _, hb, hle, hm, hlen, hel, hsp, _⟩
            · simp only [List.cons.injEq, and_true] at hc
              subst hc
              refine ⟨[], R0_pos, by simp only [bigK], by simp only [fewK], ?_, rfl⟩
              simp only [V0, cellsK]
              exact ⟨none, 0, rfl, by simp, by simp [gr], by simp [Grip.isTok, gr], .inl (by simp)⟩
            · simp only [List.cons.injEq, and_true] at hc
              subst hc
              by_cases hcap : cap = 0
              · subst hcap
                have : len = 0 := by omega
                subst this
                refine ⟨[], R0_pos, by simp only [bigK], by simp only [fewK], ?_, rfl⟩
                simp only [V0, cellsK]
                exact ⟨some a, 0, rfl, by simp, by simp [gr], by simp [Grip.isTok, gr], .inl (by simp)⟩
              · have hsp := hsp rfl
                have key : ∀ i, i < cap → ∃ cs' y, w.cells? base (a.add (i * 6)) 6 = some cs' ∧ DataW.trod enc Tryz.prog w base (fun _ => true) held n2 29 cs' = some y := by
                  intro i hi
                  by_cases hil : i < len
                  · have h1 := hel i hil
                    rw [cells28] at h1
                    have h2 : elems[i]? = some (elems[i]'(by omega)) := List.getElem?_eq_getElem (by omega)
                    rw [h2] at h1
                    obtain ⟨cs', k1, k2⟩ := Option.bind_eq_some_iff.mp h1
                    exact ⟨cs', _, k1, k2⟩
                  · have h1 := hsp.2 (i - len) (by omega)
                    rw [cells28, show len + (i - len) = i by omega] at h1
                    have h2 : rest[i - len]? = some (rest[i - len]'(by omega)) := List.getElem?_eq_getElem (by omega)
                    rw [h2] at h1
                    obtain ⟨cs', k1, k2⟩ := Option.bind_eq_some_iff.mp h1
                    exact ⟨cs', _, k1, k2⟩
                obtain ⟨bl, of, spot⟩ := a
                have hs : spot = none := by
                  obtain ⟨cs', y, k1, k2⟩ := key 0 (by omega)
                  obtain ⟨_, h2, h3⟩ := World.cells?_some k1
                  have h4 := h3 0 (by omega)
                  have h5 : cs'[0]? = some (cs'[0]'(by omega)) := List.getElem?_eq_getElem (by omega)
                  rw [h5] at h4
                  simpa [Addr.add] using World.cell?_spot h4
                subst hs
                obtain ⟨ks, k0, k1, k2, k3⟩ := VC_terms (S := old w) (w := w) (b := bl) R0 len of fun i hi => by
                  obtain ⟨cs', y, a1, a2⟩ := key i (by omega)
                  obtain ⟨t, b1, b2, b3, b4⟩ := openT_cells n2 cs' y a2
                  refine ⟨t, b1, b2, VC_of_VL _ _ _ b3 fun j v hj => ?_⟩
                  obtain ⟨_, c1, c2⟩ := World.cells?_some a1
                  have hj6 : j < 6 := by rw [← c1]; exact (List.getElem?_eq_some_iff.mp hj).1
                  have c3 := c2 j hj6
                  rw [hj, add_none, add_none] at c3
                  exact ⟨cell_lt c3, c3⟩
                refine ⟨ks, by rw [k0]; exact R0_in (by omega), k1, k2, ?_, rfl⟩
                simp only [V0]
                exact ⟨_, cap, by rw [k0], by rw [k0]; exact hle, by simp [gr], by simp [Grip.isTok, gr], .inr ⟨bl, of, rfl, k3⟩⟩
          obtain ⟨ks, hk1, hk2, hk3, hk4, hk5⟩ := hkids
          refine ⟨.mk k b .l l s.data.toList m .l ks, ?_, ?_, ?_, rfl⟩
          · simp only [bigT]
            exact ⟨hL, by have : s.data.toList.length = s.size := Array.length_toList
                          rw [this]; exact R0_in (by omega), hk2⟩
          · simp only [fewT]
            exact ⟨hLl, hk1, hk3⟩
          · simp only [cellsT, VL]
            exact ⟨_, _, rfl, rfl, by simp only [V0], _, _, rfl, rfl, by simp only [V0], _, _, rfl, hO2, hV2, _, _, rfl, rfl, V0_str s, _, _, rfl, rfl, by simp only [V0], _, _, rfl, hk5, hk4, rfl⟩
termination_by fuel => fuel
decreasing_by all_goals omega
end
end Go.Ab

/- Rows of terms in memory, as a statement's reading gives them. No conditions. -/
namespace Go.Ab
open Go.Proofs Go.RowKit
set_option maxRecDepth 100000
def IsTerms (w : World) (a : Option Addr) (len cap : Nat) : Prop := ∃ ks : List T, ks.length = len ∧ bigK R0 ks ∧ fewK R0 ks ∧ V0 (old w) w (.sl (cellsK ks) len .loose) (.slice a len cap)
section
variable {H : Type} {enc : TypeId × Value → H} {w : World} {base : Nat} {held : Bool}
theorem openTerms {a : Option Addr} {len cap : Nat} {d : DataW H} {ps : List MemPlace} (h : DataW.Trod enc Tryz.prog w base (fun _ => true) held 22 (.slice a len cap) d ps) : IsTerms w a len cap := by
  obtain ⟨fuel, hf⟩ := h
  have hk : ∀ c5 : Value, DataW.trod enc Tryz.prog w base (fun _ => true) held fuel 22 [c5] = some (d, ps) → ∃ ks : List T, ks.length < R0 ∧ bigK R0 ks ∧ fewK R0 ks ∧ V0 (old w) w (.sl (cellsK ks) ks.length (gr .l)) c5 ∧ c5.oneCell' = true := by
    intro c5 hf
    rcases DataW.trod_slice Tryz.underlying22 hf with ⟨hc, _⟩ | ⟨a, len, cap, elems, rest, n2, hfn, hc, _, hb, hle, hm, hlen, hel, hsp, _⟩
    · simp only [List.cons.injEq, and_true] at hc
      subst hc
      refine ⟨[], R0_pos, by simp only [bigK], by simp only [fewK], ?_, rfl⟩
      simp only [V0, cellsK]
      exact ⟨none, 0, rfl, by simp, by simp [gr], by simp [Grip.isTok, gr], .inl (by simp)⟩
    · simp only [List.cons.injEq, and_true] at hc
      subst hc
      by_cases hcap : cap = 0
      · subst hcap
        have : len = 0 := by omega
        subst this
        refine ⟨[], R0_pos, by simp only [bigK], by simp only [fewK], ?_, rfl⟩
        simp only [V0, cellsK]
        exact ⟨some a, 0, rfl, by simp, by simp [gr], by simp [Grip.isTok, gr], .inl (by simp)⟩
      · have hsp := hsp rfl
        have key : ∀ i, i < cap → ∃ cs' y, w.cells? base (a.add (i * 6)) 6 = some cs' ∧ DataW.trod enc Tryz.prog w base (fun _ => true) held n2 29 cs' = some y := by
          intro i hi
          by_cases hil : i < len
          · have h1 := hel i hil
            rw [cells28] at h1
            have h2 : elems[i]? = some (elems[i]'(by omega)) := List.getElem?_eq_getElem (by omega)
            rw [h2] at h1
            obtain ⟨cs', k1, k2⟩ := Option.bind_eq_some_iff.mp h1
            exact ⟨cs', _, k1, k2⟩
          · have h1 := hsp.2 (i - len) (by omega)
            rw [cells28, show len + (i - len) = i by omega] at h1
            have h2 : rest[i - len]? = some (rest[i - len]'(by omega)) := List.getElem?_eq_getElem (by omega)
            rw [h2] at h1
            obtain ⟨cs', k1, k2⟩ := Option.bind_eq_some_iff.mp h1
            exact ⟨cs', _, k1, k2⟩
        obtain ⟨bl, of, spot⟩ := a
        have hs : spot = none := by
          obtain ⟨cs', y, k1, k2⟩ := key 0 (by omega)
          obtain ⟨_, h2, h3⟩ := World.cells?_some k1
          have h4 := h3 0 (by omega)
          have h5 : cs'[0]? = some (cs'[0]'(by omega)) := List.getElem?_eq_getElem (by omega)
          rw [h5] at h4
          simpa [Addr.add] using World.cell?_spot h4
        subst hs
        obtain ⟨ks, k0, k1, k2, k3⟩ := VC_terms (S := old w) (w := w) (b := bl) R0 len of fun i hi => by
          obtain ⟨cs', y, a1, a2⟩ := key i (by omega)
          obtain ⟨t, b1, b2, b3, b4⟩ := openT_cells n2 cs' y a2
          refine ⟨t, b1, b2, VC_of_VL _ _ _ b3 fun j v hj => ?_⟩
          obtain ⟨_, c1, c2⟩ := World.cells?_some a1
          have hj6 : j < 6 := by rw [← c1]; exact (List.getElem?_eq_some_iff.mp hj).1
          have c3 := c2 j hj6
          rw [hj, add_none, add_none] at c3
          exact ⟨cell_lt c3, c3⟩
        refine ⟨ks, by rw [k0]; exact R0_in (by omega), k1, k2, ?_, rfl⟩
        simp only [V0]
        exact ⟨_, cap, by rw [k0], by rw [k0]; exact hle, by simp [gr], by simp [Grip.isTok, gr], .inr ⟨bl, of, rfl, k3⟩⟩

  obtain ⟨ks, h1, h2, h3, h4, _⟩ := hk _ hf
  have hl : ks.length = len := by
    simp only [V0] at h4
    obtain ⟨_, _, e, _⟩ := h4
    injection e with _ e2 _
    exact e2.symm
  exact ⟨ks, hl, h2, h3, by rw [hl] at h4; exact h4⟩
end
end Go.Ab

/- Lists of terms: term.List; rows of terms that grow. Conditions: lengths in range. -/
namespace Go.Ab
open Go.Proofs
set_option maxRecDepth 100000
set_option linter.unusedSimpArgs false

theorem callQ_loose {call : FuncId → List Arg → Option Out} {f : FuncId} {vs vs' : List AV} {v : AV} {os : List (List AV)} (h0 : vs.all isTree = false) (ht : vs.all isLent = true) (e : vs.map loosen = vs') (hc : call f (vs'.map Arg.tree) = some (.tree v, os)) : callQ call f vs = some v := by
  have e2 : (vs.map fun v => Arg.tree (loosen v)) = vs'.map .tree := by rw [← e]; simp
  simp only [callQ, h0, ht, Bool.false_eq_true, if_false, if_true, e2, hc, Option.bind_some]
def consT (h t : T) : T := .mk 4 false .n [] [] 0 .t [h, t]
def listT : List T → T → T
  | [], t => t
  | h :: r, t => consT h (listT r t)
theorem cells_cons (h t : T) : cellsT (consT h t) = consV (cellsT h) (cellsT t) := by
  simp only [consT, cellsT, cellsK, consV, List.append_nil, encL, encC, List.map_nil, List.length_nil, gr, List.length_cons, Nat.reduceAdd]
theorem chunk_K (ks : List T) (i : Nat) (t : T) (r : List T) (h : ks.drop i = t :: r) : chunk (cellsK ks) i = cellsT t := by
  rw [chunk, cellsK_drop, h]
  simp only [cellsK]
  rw [List.take_append_of_le_length (by rw [cellsT_len]; exact Nat.le_refl _), List.take_of_length_le (by rw [cellsT_len]; exact Nat.le_refl _)]
theorem listT_snoc (h : T) : ∀ (r : List T) (t : T), listT (r ++ [h]) t = listT r (consT h t)
  | [], t => rfl
  | a :: r, t => by simp only [List.cons_append, listT, listT_snoc h r t]
theorem lstN_K (ks : List T) : ∀ (n : Nat) (t : T), n ≤ ks.length → lstN (cellsK ks) n (cellsT t) = cellsT (listT (ks.take n) t)
  | 0, t, _ => rfl
  | n + 1, t, h => by
    have hd : ks.drop n = ks[n] :: ks.drop (n + 1) := List.drop_eq_getElem_cons h
    rw [lstN, chunk_K ks n _ _ hd, ← cells_cons, lstN_K ks n _ (by omega), List.take_succ_eq_append_getElem h, listT_snoc]
theorem tList_eq (n d : Nat) (ks : List T) (g : Grip) (t : T) (h : ks.length ≤ 9223372036854775807) : evalFn Tryz.prog cfg0 n (d+1) 91 [.tree (.sl (cellsK ks) ks.length g), .tree (encT t)] = some (.tree (encT (listT ks t)), [[], []]) := by
  have hp : prim0 91 [.tree (.sl (cellsK ks) ks.length g), .tree (encT t)] = some (.tree (encT (listT ks t)), [[], []]) := by
    unfold prim0
    rw [if_neg (by decide), if_pos (by decide)]
    have e := lstN_K ks ks.length t (Nat.le_refl _)
    rw [List.take_length] at e
    simp only [listP, encT]
    rw [if_pos ⟨cellsK_len ks, cellsT_len t, h⟩, e]
  have hc : cfg0.prim = prim0 := rfl
  rw [evalFn]
  simp only [hc, hp]
theorem by28 : decide (byOf Tryz.prog 29 ≤ 200) = true := by kernel_rfl
theorem zl28 : (zeroOf Tryz.prog 29).map List.length = some 6 := by kernel_rfl
def Ap (s : St) (d : Nat) (x : AV) (us : List T) : Prop := (us = [] ∧ x = .sl [] 0 .nil) ∨ (us ≠ [] ∧ ∃ t, x = .sl (cellsK us) us.length (.tok d t) ∧ s d = ⟨t, .tok 6⟩)
theorem Ap.push {s : St} {d : Nat} {x : AV} {us : List T} (h : Ap s d x us) (hl : us.length ≤ 1000000) (v : T) :
    ∃ x' s', appendA Tryz.prog #[22, 22] d s x (.sl (cellsT v) 1 .tight) = some (x', s') ∧ Ap s' d x' (us ++ [v]) ∧ ∀ q, q ≠ d → s' q = s q := by
  have hb := of_decide_eq_true by28
  have hk : cellsK (us ++ [v]) = cellsK us ++ cellsT v := by rw [cellsK_append]; simp only [cellsK, List.append_nil]
  have hm : ∀ s, moreA Tryz.prog 29 6 (some 22) s (.sl (cellsT v) 1 .tight) = some (cellsT v, 1) := fun s => by
    simp only [moreA, Option.map_some, tkTk, cellsT_len, Nat.one_mul, ↓reduceIte]
  have hc : (us.length + 1) * byOf Tryz.prog 29 ≤ 140737488355328 ∧ us.length + 1 ≤ 9223372036854775807 := by
    have : (us.length + 1) * byOf Tryz.prog 29 ≤ 1000001 * 200 := Nat.mul_le_mul (by omega) hb
    omega
  rcases h with ⟨rfl, rfl⟩ | ⟨_, t, rfl, hs⟩
  · refine ⟨_, upd s d ⟨(s d).t + 1, .tok 6⟩, ?_, .inr ⟨by simp, (s d).t + 1, rfl, upd_same _ _ _⟩, fun q hq => upd_ne _ _ hq⟩
    simp only [appendA, List.getElem?_toArray, List.getElem?_cons_zero, List.getElem?_cons_succ, Option.map_some, tkTk, eszT, Option.bind_some, hm, baseA, List.length_nil, Nat.zero_mul, ↓reduceIte, zl28, and_true]
    rw [if_pos (by simpa using hc)]
    simp [cellsK]
  · refine ⟨_, upd (upd s d ⟨t, .dead⟩) d ⟨t + 1, .tok 6⟩, ?_, .inr ⟨by simp, t + 1, rfl, upd_same _ _ _⟩, fun q hq => (upd_ne _ _ hq).trans (upd_ne _ _ hq)⟩
    simp only [appendA, List.getElem?_toArray, List.getElem?_cons_zero, List.getElem?_cons_succ, Option.map_some, tkTk, eszT, Option.bind_some, hm, baseA, hs, cellsK_len, and_self, ↓reduceIte, zl28, and_true]
    rw [if_pos hc]
    simp only [upd_same, List.length_append, List.length_cons, List.length_nil, Nat.zero_add, hk]
def kgOf (us : List T) : Gk := if us = [] then .n else .l
theorem Ap.settled {s : St} {d : Nat} {x : AV} {us : List T} (h : Ap s d x us) : Go.Ab.settled x = some (.sl (cellsK us) us.length (gr (kgOf us))) := by
  rcases h with ⟨rfl, rfl⟩ | ⟨hu, t, rfl, _⟩
  · rfl
  · simp only [Go.Ab.settled, kgOf, if_neg hu, gr]
end Go.Ab

/- Terms in their order: mathematics. Conditions: terms that may be. -/
namespace Go.Ab
open Go.Proofs
set_option maxRecDepth 100000
set_option linter.unusedSimpArgs false

def Tr (x y z : Int) : Prop := (x ≤ 0 → y ≤ 0 → z ≤ 0) ∧ (x < 0 → y ≤ 0 → z < 0) ∧ (x ≤ 0 → y < 0 → z < 0) ∧ (x = 0 → y = 0 → z = 0)
theorem Tr.or2 {p1 p2 p3 q1 q2 q3 : Int} (h : Tr p1 p2 p3) (h' : p1 = 0 → p2 = 0 → Tr q1 q2 q3) : Tr (or2 p1 q1) (or2 p2 q2) (or2 p3 q3) := by
  unfold Go.Ab.or2
  by_cases e1 : p1 = 0
  · by_cases e2 : p2 = 0
    · have e3 := h.2.2.2 e1 e2
      rw [if_pos e1, if_pos e2, if_pos e3]
      exact h' e1 e2
    · rw [if_pos e1, if_neg e2]
      by_cases e3 : p3 = 0
      · rw [if_pos e3]
        unfold Tr at *
        omega
      · rw [if_neg e3]
        unfold Tr at *
        omega
  · rw [if_neg e1]
    by_cases e2 : p2 = 0
    · rw [if_pos e2]
      by_cases e3 : p3 = 0
      · rw [if_pos e3]
        unfold Tr at *
        omega
      · rw [if_neg e3]
        unfold Tr at *
        omega
    · rw [if_neg e2]
      by_cases e3 : p3 = 0
      · rw [if_pos e3]
        unfold Tr at *
        omega
      · rw [if_neg e3]
        unfold Tr at *
        omega
theorem three_zero (a b : Int) : three a b = 0 ↔ a = b := by unfold three; split <;> (try split) <;> omega
end Go.Ab

/- The statement TermOrders. Conditions: limbs in range; texts in range. -/
namespace Go.Ab
open Go.Proofs
set_option maxRecDepth 100000
set_option linter.unusedSimpArgs false

mutual
theorem ht_nod : ∀ t : T, htT t ≤ nodT t
  | .mk _ _ _ _ _ _ _ ks => by have := htK_nod ks; simp only [htT, nodT]; omega
theorem htK_nod : ∀ ks : List T, htK ks ≤ nodK ks
  | [] => Nat.le_refl _
  | t :: r => by have := ht_nod t; have := htK_nod r; simp only [htK, nodK]; omega
end
end Go.Ab

/- The reference's own functions on numbers: reading, normal forms, comparing. Conditions: limbs in range, not too many. -/
namespace Go.Ab
open Go.Proofs
set_option maxRecDepth 100000
set_option linter.unusedSimpArgs false

theorem rat_eq (n d : Nat) (b : Gk) (l : List Nat) (hl : ∀ x ∈ l, x < 4294967296) (i : Int) (hi : 0 ≤ i) : evalFn Tryz.prog cfg0 n (d+1) 98 [.tree (encL b l), .tree (.int .i64 i)] = some (.tree (.int .u64 ((l.getD i.toNat 0 : Nat) : Int)), [[],[]]) := by
  rw [evalFn_go _ Tryz.func98 (by unfold Tryz.f98; rfl) (by unfold Tryz.f98; decide) (Nat.le_of_ble_eq_true (by unfold Tryz.f98; rfl)) (by kernel_rfl)]
  have hx := getD_lt l hl i.toNat
  by_cases h : i < l.length
  · have h' : i.toNat < l.length := by omega
    simp only [simB, zbo, Nat.reduceBEq, own0, ↓reduceIte, Nat.reduceEqDiff, Nat.reduceAdd, simA, simL, h, hi, h', hx]
    rfl
  · have hx : l.getD i.toNat 0 = 0 := by
      rw [List.getD_eq_getElem?_getD, List.getElem?_eq_none (by omega)]; rfl
    simp only [simB, zbo, Nat.reduceBEq, own0, ↓reduceIte, Nat.reduceEqDiff, Nat.reduceAdd, simA, simL, h, hx]
    rfl

theorem rat_call (n d : Nat) (b : Gk) (l : List Nat) (hl : Limbs l) (k : Nat) (D : Nat) (s : St) : callA cfg0 (evalFn Tryz.prog cfg0 n (d+1)) D s 98 [encL b l, .int .i64 (k : Int)] = some (.int .u64 ((l.getD k 0 : Nat) : Int), s) :=
  callA_Li _ _ _ _ _ _ _ _ _ (rat_eq n d b l hl k (by omega))
theorem slice22h (s : St) (b : Gk) (l : List Nat) (k : Nat) (h : k ≤ l.length) : ∃ b', sliceA Tryz.prog 25 s (encL b l) none (some (.int .i64 (k : Int))) none = some (encL b' (l.take k)) := by
  have hx : (encC l).length = l.length * 1 := by rw [encC_len]; omega
  simp only [sliceA, tk22, encL, esz31, Option.isSome_none, Option.isNone_some, Bool.false_eq_true, false_and, if_false, boundA, Option.bind_some, hx, if_true, Int.toNat_natCast]
  rw [if_pos (by omega)]
  simp only [Option.bind_some, Nat.zero_mul, List.drop_zero, Nat.sub_zero, Nat.mul_one, encC_take]
  have hl : (l.take k).length = k := by rw [List.length_take]; omega
  rw [hl]
  by_cases hc : (false = true ∧ l.length = k) ∨ (none = (none : Option AV) ∧ (gr b = .tight ∨ gr b = .nil) ∧ k = l.length)
  · exact ⟨.t, by simp_all [gr]⟩
  · exact ⟨.l, by simp_all [gr]⟩
def encF (v : Nat) : AV := encL .l (digs v)
theorem rnorm_eq (n d : Nat) (b : Gk) (l : List Nat) (hl : Limbs l) (hn : l.length < n) (hlen : l.length ≤ 1000000) : evalFn Tryz.prog cfg0 n (d+1) 111 [.tree (encL b l)] = some (.tree (encF (val l)), [[]]) := by
  rw [evalFn_go _ Tryz.func111 (by unfold Tryz.f111; rfl) (by unfold Tryz.f111; decide) (Nat.le_of_ble_eq_true (by unfold Tryz.f111; rfl)) (by kernel_rfl)]
  simp only [simB, zbo, Nat.reduceBEq, own0, ↓reduceIte, Nat.reduceEqDiff, Nat.reduceAdd, simA, simL, st0_1, den_loop]
  refine loop_ends (X := Nat) (fun k env s => env 0 = encL b l ∧ env 3 = .int .i64 (k : Int) ∧ s = dead ∧ k ≤ l.length ∧ val (l.take k) = val l) id (fun _ => (.tree (encF (val l)), [[]])) ?_ n l.length _ _ hn ⟨rfl, rfl, rfl, Nat.le_refl _, by simp⟩
  intro k x hx ih env s ⟨h0, h3, hs, hk, hv⟩
  subst hs
  obtain ⟨b', e3⟩ := slice22h dead b l x hk
  have fin : (∀ y, x = y + 1 → l.getD y 0 ≠ 0) → encF (val l) = .sl (encC (l.take x)) (l.take x).length .loose := by
    intro hz
    have hd : digs (val l) = l.take x := by
      rw [← hv]
      refine digs_val _ (hl.take _) ?_
      intro u hu
      cases x with
      | zero => simp at hu
      | succ y =>
        have el : (l.take (y + 1)).length = y + 1 := by rw [List.length_take]; omega
        rw [List.getLast?_eq_getElem?, el, Nat.add_sub_cancel, List.getElem?_take, if_pos (Nat.lt_succ_self y)] at hu
        have := hz y rfl
        rw [List.getD_eq_getElem?_getD, hu] at this
        exact this
    rw [encF, hd]; rfl
  obtain ⟨s', p, t, ea, _⟩ := append22t 21 dead (.sl [] 0 .nil) [] (l.take x) b' (hold_nil _) (by simp only [List.length_nil, List.length_take]; omega)
  rw [List.nil_append] at ea
  have hf : finish1 (cfg0.keep 111) [Arg.tree (encL b l)].length s' (.sl (encC (l.take x)) (l.take x).length (.tok p t)) = some (.tree (.sl (encC (l.take x)) (l.take x).length .loose), s') := rfl
  by_cases hp : x = 0
  · subst hp
    have q1 : ¬ (((0 : Nat) : Int) > 0) := by omega
    simp only [simB, zbo, Nat.reduceBEq, own0, ↓reduceIte, Nat.reduceEqDiff, Nat.reduceAdd, simL, h0, h3, q1, Option.map_none, e3, ea]
    rw [fin (by omega)]
    exact finish_tree _ _ _ _ _ _ (.sl (encC (l.take 0)) (l.take 0).length (.tok p t)) _ _ (by simp only [zfr, ↓reduceIte]) hf rfl
  · obtain ⟨y, rfl⟩ : ∃ y, x = y + 1 := ⟨x - 1, by omega⟩
    have p1 : ((y + 1 : Nat) : Int) > 0 := by omega
    have p2 : ((y + 1 : Nat) : Int) - 1 = (y : Int) := by omega
    have p3 : (y : Int) < l.length := by omega
    have p4 : y < l.length := by omega
    have p6 : (0 : Int) ≤ y := by omega
    have e1 : binA Tryz.prog .sub 3 (.int .i64 ((y + 1 : Nat) : Int)) (.int .i64 1) = some (.int .i64 (y : Int)) := by rw [i_sub _ _ _ _ (by omega) (by omega), p2]
    by_cases hz : l.getD y 0 = 0
    · have p5 : (((l.getD y 0 : Nat) : Int) == 0) = true := by rw [hz]; rfl
      simp only [simB, zbo, Nat.reduceBEq, own0, ↓reduceIte, Nat.reduceEqDiff, Nat.reduceAdd, simL, h0, h3, p1, e1, p6, p3, Int.toNat_natCast, p4, p5]
      refine ih y _ _ (Nat.lt_succ_self _) rfl ⟨?_, ?_, rfl, by omega, ?_⟩
      · simp only [zfr, ↓reduceIte, Nat.reduceEqDiff, h0]
      · simp only [zfr, ↓reduceIte, Nat.reduceEqDiff]
      · rw [← hv, val_take_succ _ _ p4, hz, Nat.mul_zero, Nat.add_zero]
    · have p5 : (((l.getD y 0 : Nat) : Int) == 0) = false := by
        rw [beq_eq_false_iff_ne]; omega
      simp only [simB, zbo, Nat.reduceBEq, own0, ↓reduceIte, Nat.reduceEqDiff, Nat.reduceAdd, simL, h0, h3, p1, e1, p6, p3, Int.toNat_natCast, p4, p5, e3, ea]
      rw [fin (by intro y' hy'; have : y' = y := by omega
                  subst this; exact hz)]
      exact finish_tree _ _ _ _ _ _ (.sl (encC (l.take (y + 1))) (l.take (y + 1)).length (.tok p t)) _ _ (by simp only [zfr, ↓reduceIte]) hf rfl
end Go.Ab

/- The reference's own functions on numbers: Cmp, Add, Sub. Conditions: limbs in range, not too many. -/
namespace Go.Ab
open Go.Proofs
set_option maxRecDepth 100000
set_option linter.unusedSimpArgs false

theorem rnorm_hold (n d : Nat) (s : St) (v : AV) (o : List Nat) (h : Hold s v o) (ho : Limbs o) (hn : o.length < n) (hl : o.length ≤ 1000000) (D : Nat) : ∃ s', callA cfg0 (evalFn Tryz.prog cfg0 n (d + 1)) D s 111 [v] = some (encF (val o), s') := by
  rcases h with ⟨rfl, rfl⟩ | ⟨p, t, rfl, hp⟩ | ⟨p, t, rfl, hp⟩
  · exact ⟨s, callA_L1 _ D s 111 .n [] _ (rnorm_eq n d .n [] ho hn hl)⟩
  · have := rnorm_eq n d .l o ho hn hl
    rw [show encL .l o = .sl (encC o) o.length .loose from rfl] at this
    refine ⟨s, ?_⟩
    simp [callA, argsA, argA, givesL, lendsL, givesOf, lendsOf, this, backA, resA, lin0]
  · have := rnorm_eq n d .l o ho hn hl
    rw [show encL .l o = .sl (encC o) o.length .loose from rfl] at this
    have hf : flatR (.tree (encF (val o))) = false := rfl
    refine ⟨frzAt s p, ?_⟩
    have ht : (encC o).take o.length = encC o := List.take_of_length_le (by rw [encC_len]; exact Nat.le_refl _)
    have hle : 0 + o.length * 1 ≤ (encC o).length := by rw [encC_len]; omega
    simp [callA, argsA, argA, cellsAt, hp, ht, encC_len, givesL, lendsL, givesOf, lendsOf, this, hf, backA, resA, lin0]

theorem finish_F (k : Bool) (xs : List Arg) (t : Nat) (env : Env) (s : St) (v : Nat) (os : List (List AV)) (hv : env t = encF v) (ho : outsA s 0 xs = some os) :
    finishP Tryz.prog k xs #[.tmp t] env s = some (.tree (encF v), os) := finish_L _ _ _ _ _ _ _ _ hv ho
theorem cmpZ_1 (x y : Nat) (h : x < y) : cmpZ x y = -1 := by simp only [cmpZ, h, if_true]
theorem cmpZ_2 (x y : Nat) (h : y < x) : cmpZ x y = 1 := by
  have : ¬ x < y := by omega
  simp only [cmpZ, h, this, if_true, if_false]
theorem rcmp_eq (n d : Nat) (b b' : Gk) (l m : List Nat) (hl : Limbs l) (hm : Limbs m) (hn : l.length < n) (hn' : m.length < n) (hll : l.length ≤ 1000000) (hml : m.length ≤ 1000000) :
    evalFn Tryz.prog cfg0 n (d+2) 70 [.tree (encL b l), .tree (encL b' m)] = some (.tree (.int .i64 (cmpZ (val l) (val m))), [[], []]) := by
  rw [evalFn_go _ Tryz.func70 (by unfold Tryz.f70; rfl) (by unfold Tryz.f70; decide) (Nat.le_of_ble_eq_true (by unfold Tryz.f70; rfl)) (by kernel_rfl)]
  have e0 := i_sub Tryz.prog 3 ((max l.length m.length : Nat) : Int) 1 (by omega) (by omega)
  simp only [simB, zbo, Nat.reduceBEq, own0, ↓reduceIte, Nat.reduceEqDiff, Nat.reduceAdd, simA, simL, st0_2, max_eq, e0, den_loop]
  refine loop_ends (X := Nat) (fun k env s => env 0 = encL b l ∧ env 1 = encL b' m ∧ env 5 = .int .i64 ((k : Int) - 1) ∧ s = dead ∧ k ≤ max l.length m.length ∧ Alike l m k) id (fun _ => (.tree (.int .i64 (cmpZ (val l) (val m))), [[], []])) ?_ n (max l.length m.length) _ _ (by simp only [id]; omega) ⟨rfl, rfl, rfl, rfl, Nat.le_refl _, alike_top _ _ _ (by omega) (by omega)⟩
  intro k x hx ih env s ⟨h0, h1, h5, hs, hk, hv⟩
  subst hs
  by_cases hp : x = 0
  · subst hp
    have q1 : ¬ (((0 : Nat) : Int) - 1 ≥ 0) := by omega
    simp only [simB, zbo, Nat.reduceBEq, own0, ↓reduceIte, Nat.reduceEqDiff, Nat.reduceAdd, simL, h0, h1, h5, q1]
    rw [alike_0 _ _ hv, cmpZ_self]
    exact finish_tree _ _ _ _ _ _ (.int .i64 0) _ _ (by simp only [zfr, ↓reduceIte]) rfl rfl
  · obtain ⟨y, rfl⟩ : ∃ y, x = y + 1 := ⟨x - 1, by omega⟩
    have p2 : ((y + 1 : Nat) : Int) - 1 = (y : Int) := by omega
    rw [p2] at h5
    have p6 : (y : Int) ≥ 0 := by omega
    have e1 := i_sub Tryz.prog 3 (y : Int) 1 (by omega) (by omega)
    have c1 := rat_call n d b l hl y
    have c2 := rat_call n d b' m hm y
    by_cases hz : l.getD y 0 < m.getD y 0
    · have p5 : ((l.getD y 0 : Nat) : Int) < ((m.getD y 0 : Nat) : Int) := by omega
      simp only [simB, zbo, Nat.reduceBEq, own0, ↓reduceIte, Nat.reduceEqDiff, Nat.reduceAdd, simL, h0, h1, h5, p6, c1, c2, e1, p5]
      rw [alike_ne _ _ hl hm _ hv (by omega), cmpZ_1 _ _ hz]
      exact finish_tree _ _ _ _ _ _ (.int .i64 (-1)) _ _ (by simp only [zfr, ↓reduceIte, Nat.reduceEqDiff]) rfl rfl
    · have p5 : ¬ ((l.getD y 0 : Nat) : Int) < ((m.getD y 0 : Nat) : Int) := by omega
      by_cases hy : m.getD y 0 < l.getD y 0
      · have p7 : ((l.getD y 0 : Nat) : Int) > ((m.getD y 0 : Nat) : Int) := by omega
        simp only [simB, zbo, Nat.reduceBEq, own0, ↓reduceIte, Nat.reduceEqDiff, Nat.reduceAdd, simL, h0, h1, h5, p6, c1, c2, e1, p5, p7]
        rw [alike_ne _ _ hl hm _ hv (by omega), cmpZ_2 _ _ hy]
        exact finish_tree _ _ _ _ _ _ (.int .i64 1) _ _ (by simp only [zfr, ↓reduceIte, Nat.reduceEqDiff]) rfl rfl
      · have p7 : ¬ ((l.getD y 0 : Nat) : Int) > ((m.getD y 0 : Nat) : Int) := by omega
        simp only [simB, zbo, Nat.reduceBEq, own0, ↓reduceIte, Nat.reduceEqDiff, Nat.reduceAdd, simL, h0, h1, h5, p6, c1, c2, e1, p5, p7]
        refine ih y _ _ (Nat.lt_succ_self _) rfl ⟨?_, ?_, ?_, rfl, by omega, alike_down _ _ _ hv (by omega)⟩
        · simp only [zfr, ↓reduceIte, Nat.reduceEqDiff, h0]
        · simp only [zfr, ↓reduceIte, Nat.reduceEqDiff, h1]
        · simp only [zfr, ↓reduceIte, Nat.reduceEqDiff]
end Go.Ab

/- The reference's own functions on numbers: Add, Sub. Conditions: limbs in range, not too many. -/
namespace Go.Ab
open Go.Proofs
set_option maxRecDepth 100000
set_option linter.unusedSimpArgs false

theorem radd_eq (n d : Nat) (b b' : Gk) (l m : List Nat) (hl : Limbs l) (hm : Limbs m) (hn : l.length + 2 < n) (hn' : m.length + 2 < n) (hll : l.length ≤ 100000) (hml : m.length ≤ 100000) :
    evalFn Tryz.prog cfg0 n (d+2) 109 [.tree (encL b l), .tree (encL b' m)] = some (.tree (encF (val l + val m)), [[], []]) := by
  rw [evalFn_go _ Tryz.func109 (by unfold Tryz.f109; rfl) (by unfold Tryz.f109; decide) (Nat.le_of_ble_eq_true (by unfold Tryz.f109; rfl)) (by kernel_rfl)]
  have e0 := i_add Tryz.prog 3 ((max l.length m.length : Nat) : Int) 1 (by omega) (by omega)
  rw [show ((max l.length m.length : Nat) : Int) + 1 = ((max l.length m.length + 1 : Nat) : Int) by omega] at e0
  simp only [simB, zbo, Nat.reduceBEq, own0, ↓reduceIte, Nat.reduceEqDiff, Nat.reduceAdd, simA, simL, st0_2, den_loop]
  have hmx := max_eq l.length m.length
  generalize hM : max l.length m.length = M at *
  refine loop_ends (X := Nat × Nat × List Nat) (fun x env s => env 0 = encL b l ∧ env 1 = encL b' m ∧ env 7 = .int .i64 (x.1 : Int) ∧ env 6 = .int .u64 (x.2.1 : Int) ∧ Hold s (env 5) x.2.2 ∧ x.1 ≤ M + 1 ∧ x.2.1 ≤ 1 ∧ x.2.2.length = x.1 ∧ Limbs x.2.2 ∧ val x.2.2 + B ^ x.1 * x.2.1 = val (l.take x.1) + val (m.take x.1)) (fun x => M + 1 - x.1) (fun _ => (.tree (encF (val l + val m)), [[], []])) ?_ n (0, 0, []) _ _ (by simp only; omega) ⟨rfl, rfl, rfl, rfl, hold_nil _, by simp, by simp, rfl, limbs_nil, by simp [val]⟩
  intro k ⟨i, c, o⟩ hx ih env s ⟨h0, h1, h7, h6, h5, hi, hc, hol, hoL, hv⟩
  simp only at h0 h1 h7 h6 h5 hi hc hol hoL hv hx
  by_cases hp : i = M + 1
  · have q1 : ¬ ((i : Int) < ((M + 1 : Nat) : Int)) := by omega
    obtain ⟨s9, e9⟩ := rnorm_hold n d s (env 5) o h5 hoL (by omega) (by omega) 35
    simp only [simB, zbo, Nat.reduceBEq, own0, ↓reduceIte, Nat.reduceEqDiff, Nat.reduceAdd, simL, h0, h1, h7, hmx, e0, q1, e9]
    rw [add_end l m o i c hl hm (by omega) (by omega) hv]
    exact finish_F _ _ _ _ _ _ _ (by simp only [zfr, ↓reduceIte]) rfl
  · have q1 : (i : Int) < ((M + 1 : Nat) : Int) := by omega
    have c1 := rat_call n d b l hl i
    have c2 := rat_call n d b' m hm i
    have hx1 := getD_lt l hl i
    have hx2 := getD_lt m hm i
    have e1 := u_add Tryz.prog 96 c (l.getD i 0)
    rw [Nat.mod_eq_of_lt (by omega)] at e1
    have e2 := u_add Tryz.prog 96 (c + l.getD i 0) (m.getD i 0)
    rw [Nat.mod_eq_of_lt (by omega), Nat.add_assoc] at e2
    have e3 := u_shr Tryz.prog 96 (c + (l.getD i 0 + m.getD i 0)) .u64 32 (by decide) (by decide)
    rw [show (2 : Nat) ^ (32 : Int).toNat = 4294967296 from rfl] at e3
    have e4 := i_add Tryz.prog 3 (i : Int) 1 (by omega) (by omega)
    have hlim : (c + (l.getD i 0 + m.getD i 0)) % 4294967296 < B := Nat.mod_lt _ (by decide)
    obtain ⟨v', s', ea, hh⟩ := append22 31 s (env 5) o [(c + (l.getD i 0 + m.getD i 0)) % 4294967296] .t h5 (by simp only [List.length_cons, List.length_nil]; omega)
    rw [show encL .t [(c + (l.getD i 0 + m.getD i 0)) % 4294967296] = .sl [.int .u32 (((c + (l.getD i 0 + m.getD i 0)) % 4294967296 : Nat) : Int)] 1 .tight from rfl] at ea
    simp only [simB, zbo, Nat.reduceBEq, own0, ↓reduceIte, Nat.reduceEqDiff, Nat.reduceAdd, simL, h0, h1, h7, h6, hmx, e0, q1, c1, c2, e1, e2, e3, e4, opA_one, one22_int, ea]
    refine ih (i + 1, (c + (l.getD i 0 + m.getD i 0)) / 4294967296, o ++ [(c + (l.getD i 0 + m.getD i 0)) % 4294967296]) _ _ (by simp only; omega) rfl ⟨?_, ?_, ?_, ?_, ?_, ?_, ?_, ?_, ?_, ?_⟩
    · simp only [zfr, ↓reduceIte, Nat.reduceEqDiff, h0]
    · simp only [zfr, ↓reduceIte, Nat.reduceEqDiff, h1]
    · simp only [zfr, ↓reduceIte, Nat.reduceEqDiff]; rfl
    · simp only [zfr, ↓reduceIte, Nat.reduceEqDiff]
    · simp only [zfr, ↓reduceIte, Nat.reduceEqDiff]; exact hh
    · simp only; omega
    · simp only; omega
    · simp only [List.length_append, List.length_cons, List.length_nil]; omega
    · exact hoL.app (limbs_one hlim)
    · exact add_step l m o i c hol hv
end Go.Ab

/- The reference's Sub. Conditions: limbs in range, not too many. -/
namespace Go.Ab
open Go.Proofs
set_option maxRecDepth 100000
set_option linter.unusedSimpArgs false

theorem val_take_small (b : List Nat) (hb : Limbs b) (k : Nat) (h : val b < B ^ k) : val (b.take k) = val b := by
  have h1 : val b = val (b.take k) + B ^ (b.take k).length * val (b.drop k) := by rw [← val_app, List.take_append_drop]
  rw [val_drop b hb k, Nat.div_eq_of_lt h, Nat.mul_zero, Nat.add_zero] at h1
  exact h1.symm
theorem rsub_end (a b o : List Nat) (c : Nat) (ha : Limbs a) (hb : Limbs b) (ho : Limbs o) (hi : o.length = a.length) (hle : val b ≤ val a) (h : val o + val (b.take a.length) = val (a.take a.length) + B ^ a.length * c) : val o = val a - val b := by
  have h0 := val_lt a ha
  rw [List.take_length, val_take_small b hb _ (by omega)] at h
  have h1 := val_lt o ho
  rw [hi] at h1
  rcases Nat.eq_zero_or_pos c with rfl | hc
  · rw [Nat.mul_zero, Nat.add_zero] at h; omega
  · exfalso
    have : B ^ a.length * 1 ≤ B ^ a.length * c := Nat.mul_le_mul_left _ hc
    omega
def encS (x y : Nat) : AV := if x < y then .sl [] 0 .nil else encF (x - y)
theorem rcmp_call (n d : Nat) (b b' : Gk) (l m : List Nat) (hl : Limbs l) (hm : Limbs m) (hn : l.length < n) (hn' : m.length < n) (hll : l.length ≤ 1000000) (hml : m.length ≤ 1000000) (D : Nat) (s : St) :
    callA cfg0 (evalFn Tryz.prog cfg0 n (d+2)) D s 70 [encL b l, encL b' m] = some (.int .i64 (cmpZ (val l) (val m)), s) :=
  callA_L2 _ _ _ _ _ _ _ _ _ (rcmp_eq n d b b' l m hl hm hn hn' hll hml)
theorem rsub_eq (n d : Nat) (b b' : Gk) (l m : List Nat) (hl : Limbs l) (hm : Limbs m) (hn : l.length + 2 < n) (hn' : m.length + 2 < n) (hll : l.length ≤ 100000) (hml : m.length ≤ 100000) :
    evalFn Tryz.prog cfg0 n (d+3) 110 [.tree (encL b l), .tree (encL b' m)] = some (.tree (encS (val l) (val m)), [[], []]) := by
  rw [evalFn_go _ Tryz.func110 (by unfold Tryz.f110; rfl) (by unfold Tryz.f110; decide) (Nat.le_of_ble_eq_true (by unfold Tryz.f110; rfl)) (by kernel_rfl)]
  have c0 := rcmp_call n d b b' l m hl hm (by omega) (by omega) (by omega) (by omega)
  by_cases hlt : val l < val m
  · have z1 : cmpZ (val l) (val m) < 0 := (cmpZ_lt _ _).mpr hlt
    simp only [simB, zbo, Nat.reduceBEq, own0, ↓reduceIte, Nat.reduceEqDiff, Nat.reduceAdd, simA, simL, c0, z1]
    rw [encS, if_pos hlt]
    exact finish_tree _ _ _ _ _ _ (.sl [] 0 .nil) _ _ (by simp only [zfr, ↓reduceIte]) rfl rfl
  have z1 : ¬ cmpZ (val l) (val m) < 0 := fun h => hlt ((cmpZ_lt _ _).mp h)
  rw [encS, if_neg hlt]
  simp only [simB, zbo, Nat.reduceBEq, own0, ↓reduceIte, Nat.reduceEqDiff, Nat.reduceAdd, simA, simL, st0_2, c0, z1, den_loop]
  refine loop_ends (X := Nat × Nat × List Nat) (fun x env s => env 0 = encL b l ∧ env 1 = encL b' m ∧ env 7 = .int .i64 (x.1 : Int) ∧ env 6 = .int .u64 (x.2.1 : Int) ∧ Hold s (env 5) x.2.2 ∧ x.1 ≤ l.length ∧ x.2.1 ≤ 1 ∧ x.2.2.length = x.1 ∧ Limbs x.2.2 ∧ val x.2.2 + val (m.take x.1) = val (l.take x.1) + B ^ x.1 * x.2.1) (fun x => l.length - x.1) (fun _ => (.tree (encF (val l - val m)), [[], []])) ?_ n (0, 0, []) _ _ (by simp only; omega) ⟨rfl, rfl, rfl, rfl, hold_nil _, by simp, by simp, rfl, limbs_nil, by simp [val]⟩
  intro k ⟨i, c, o⟩ hx ih env s ⟨h0, h1, h7, h6, h5, hi, hc, hol, hoL, hv⟩
  simp only at h0 h1 h7 h6 h5 hi hc hol hoL hv hx
  by_cases hp : i = l.length
  · subst hp
    have q1 : ¬ ((l.length : Int) < (l.length : Int)) := by omega
    obtain ⟨s9, e9⟩ := rnorm_hold n (d + 1) s (env 5) o h5 hoL (by omega) (by omega) 36
    simp only [simB, zbo, Nat.reduceBEq, own0, ↓reduceIte, Nat.reduceEqDiff, Nat.reduceAdd, simL, h0, h1, h7, q1, e9]
    rw [rsub_end l m o c hl hm hoL hol (by omega) hv]
    exact finish_F _ _ _ _ _ _ _ (by simp only [zfr, ↓reduceIte]) rfl
  · have q1 : (i : Int) < (l.length : Int) := by omega
    have c1 := rat_call n (d + 1) b l hl i
    have c2 := rat_call n (d + 1) b' m hm i
    have hx1 := getD_lt l hl i
    have hx2 := getD_lt m hm i
    have hst := sub_step l m o i c
    generalize l.getD i 0 = x at *
    generalize m.getD i 0 = y at *
    have e1 := u_sub Tryz.prog 96 x y (by omega)
    have e2 := u_sub Tryz.prog 96 ((x + (18446744073709551616 - y)) % 18446744073709551616) c (by omega)
    obtain ⟨u, hu⟩ : ∃ u, ((x + (18446744073709551616 - y)) % 18446744073709551616 + (18446744073709551616 - c)) % 18446744073709551616 = u := ⟨_, rfl⟩
    rw [hu] at e2
    have e3 := u_shr Tryz.prog 96 u .u64 63 (by decide) (by decide)
    rw [show (2 : Nat) ^ (63 : Int).toNat = 9223372036854775808 from rfl] at e3
    have e4 := i_add Tryz.prog 3 (i : Int) 1 (by omega) (by omega)
    have hlim : u % 4294967296 < B := Nat.mod_lt _ (by decide)
    obtain ⟨v', s', ea, hh⟩ := append22 32 s (env 5) o [u % 4294967296] .t h5 (by simp only [List.length_cons, List.length_nil]; omega)
    rw [show encL .t [u % 4294967296] = .sl [.int .u32 ((u % 4294967296 : Nat) : Int)] 1 .tight from rfl] at ea
    simp only [simB, zbo, Nat.reduceBEq, own0, ↓reduceIte, Nat.reduceEqDiff, Nat.reduceAdd, simL, h0, h1, h7, h6, q1, c1, c2, e1, e2, e3, e4, opA_one, one22_int, ea]
    refine ih (i + 1, u / 9223372036854775808, o ++ [u % 4294967296]) _ _ (by simp only; omega) rfl ⟨?_, ?_, ?_, ?_, ?_, ?_, ?_, ?_, ?_, ?_⟩
    · simp only [zfr, ↓reduceIte, Nat.reduceEqDiff, h0]
    · simp only [zfr, ↓reduceIte, Nat.reduceEqDiff, h1]
    · simp only [zfr, ↓reduceIte, Nat.reduceEqDiff]; rfl
    · simp only [zfr, ↓reduceIte, Nat.reduceEqDiff]
    · simp only [zfr, ↓reduceIte, Nat.reduceEqDiff]; exact hh
    · simp only; omega
    · simp only; omega
    · simp only [List.length_append, List.length_cons, List.length_nil]; omega
    · exact hoL.app (limbs_one hlim)
    · exact hst _ _ hol hv (borrow x y c u hx1 hx2 hc hu)
end Go.Ab

/- The reference's Mul. Conditions: limbs in range, not too many. -/
namespace Go.Ab
open Go.Proofs
set_option maxRecDepth 100000
set_option linter.unusedSimpArgs false

end Go.Ab

/- The reference's Shr. Conditions: limbs in range, not too many. -/
namespace Go.Ab
open Go.Proofs
set_option maxRecDepth 100000
set_option linter.unusedSimpArgs false

theorem tk42 : tkOf Tryz.prog 97 = .int .u64 := by kernel_rfl
theorem conv3_42 (s : St) (x : Nat) (h : x < 4294967296) : convA Tryz.prog 3 97 s (.int .i64 (x : Int)) = some (.int .u64 (x : Int)) := by
  simp only [convA, tk3, tk42]
  rw [u64_wrap, Nat.mod_eq_of_lt (by omega)]
end Go.Ab

/- The reference's Len. Conditions: limbs in range, not too many. -/
namespace Go.Ab
open Go.Proofs
set_option maxRecDepth 100000
set_option linter.unusedSimpArgs false

theorem rnorm_call (n d : Nat) (b : Gk) (o : List Nat) (ho : Limbs o) (hn : o.length < n) (hl : o.length ≤ 1000000) (D : Nat) (s : St) : callA cfg0 (evalFn Tryz.prog cfg0 n (d + 1)) D s 111 [encL b o] = some (encF (val o), s) :=
  callA_L1 _ D s 111 b o _ (rnorm_eq n d b o ho hn hl)
theorem lenF (s : St) (v : Nat) : lenA Tryz.prog 25 s (encF v) = some (.int .i64 ((digs v).length : Int)) := zdx s _ _
theorem rlen_eq (n d : Nat) (b : Gk) (l : List Nat) (hl : Limbs l) (hn : 32 * l.length + 2 < n) (hlen : l.length ≤ 100000) : evalFn Tryz.prog cfg0 n (d+2) 112 [.tree (encL b l)] = some (.tree (.int .i64 ((blen (val l) : Nat) : Int)), [[]]) := by
  rw [evalFn_go _ Tryz.func112 (by unfold Tryz.f112; rfl) (by unfold Tryz.f112; decide) (Nat.le_of_ble_eq_true (by unfold Tryz.f112; rfl)) (by kernel_rfl)]
  have c1 := rnorm_call n d b l hl (by omega) (by omega)
  have hd := digs_len (val l) l.length (val_lt l hl)
  have hvd := val_digs (val l)
  have hdl := limbs_digs (val l)
  obtain ⟨m, hm⟩ : ∃ m, m = digs (val l) := ⟨_, rfl⟩
  have hF : encF (val l) = encL .l m := by rw [encF, hm]
  rw [← hm] at hd hvd hdl
  rw [hF] at c1
  have e1 := i_mul Tryz.prog 3 32 (m.length : Int) (by omega) (by omega)
  rw [show (32 : Int) * (m.length : Int) = ((32 * m.length : Nat) : Int) by omega] at e1
  simp only [simB, zbo, Nat.reduceBEq, own0, ↓reduceIte, Nat.reduceEqDiff, Nat.reduceAdd, simA, simL, st0_1, c1, e1, den_loop]
  refine loop_ends (X := Nat) (fun k env s => env 3 = encL .l m ∧ env 4 = .int .i64 (k : Int) ∧ s = dead ∧ k ≤ 32 * m.length ∧ val l < 2 ^ k) id (fun _ => (.tree (.int .i64 ((blen (val l) : Nat) : Int)), [[]])) ?_ n (32 * m.length) _ _ (by simp only [id]; omega) ⟨rfl, rfl, rfl, Nat.le_refl _, by rw [← hvd, ← B_pow]; exact val_lt m hdl⟩
  intro k x hx ih env s ⟨h3, h4, hs, hk, hv⟩
  subst hs
  by_cases hp : x = 0
  · subst hp
    have q1 : ¬ (((0 : Nat) : Int) > 0) := by omega
    have hv0 : val l = 0 := by rw [Nat.pow_zero] at hv; omega
    simp only [simB, zbo, Nat.reduceBEq, own0, ↓reduceIte, Nat.reduceEqDiff, Nat.reduceAdd, simL, h3, h4, q1]
    rw [hv0]
    exact finish_tree _ _ _ _ _ _ (.int .i64 ((0 : Nat) : Int)) _ _ (by simp only [zfr, ↓reduceIte]) rfl rfl
  · obtain ⟨y, rfl⟩ : ∃ y, x = y + 1 := ⟨x - 1, by omega⟩
    have p1 : ((y + 1 : Nat) : Int) > 0 := by omega
    have f1 : binA Tryz.prog .sub 3 (.int .i64 ((y + 1 : Nat) : Int)) (.int .i64 1) = some (.int .i64 (y : Int)) := by rw [i_sub _ _ _ _ (by omega) (by omega), show ((y + 1 : Nat) : Int) - 1 = (y : Int) by omega]
    have g1 := i_quo Tryz.prog 3 y 32 (by decide) (by omega)
    have g2 := i_rem Tryz.prog 3 y 32 (by decide)
    rw [show ((32 : Nat) : Int) = 32 from rfl] at g1 g2
    have p3 : ((y / 32 : Nat) : Int) < m.length := by omega
    have p4 : y / 32 < m.length := by omega
    have p7 : (0 : Int) ≤ ((y / 32 : Nat) : Int) := by omega
    have e10 : convA Tryz.prog 3 97 dead (.int .i64 ((y % 32 : Nat) : Int)) = some (.int .u64 ((y % 32 : Nat) : Int)) := conv3_42 dead _ (by omega)
    have hlw := getD_lt m hdl (y / 32)
    have g3 := s_shr Tryz.prog 57 (m.getD (y / 32) 0) .u64 ((y % 32 : Nat) : Int) (by omega) (by omega)
    rw [Int.toNat_natCast] at g3
    have g4 := s_and1 Tryz.prog 57 (m.getD (y / 32) 0 / 2 ^ (y % 32)) (Nat.lt_of_le_of_lt (Nat.div_le_self _ _) hlw)
    have hbl := bit_limb m hdl y
    rw [hvd] at hbl
    rw [hbl] at g4
    rw [pow1] at hv
    have h2p := Nat.two_pow_pos y
    have hq : val l / 2 ^ y < 2 := by rw [Nat.div_lt_iff_lt_mul h2p]; exact hv
    by_cases hz : val l / 2 ^ y % 2 = 0
    · have p5 : (((val l / 2 ^ y % 2 : Nat) : Int) == 0) = true := by rw [hz]; rfl
      simp only [simB, zbo, Nat.reduceBEq, own0, ↓reduceIte, Nat.reduceEqDiff, Nat.reduceAdd, simL, h3, h4, p1, f1, g1, g2, p7, p3, p4, Int.toNat_natCast, e10, g3, g4, p5]
      refine ih y _ _ (Nat.lt_succ_self _) rfl ⟨?_, ?_, rfl, by omega, ?_⟩
      · simp only [zfr, ↓reduceIte, Nat.reduceEqDiff, h3]
      · simp only [zfr, ↓reduceIte, Nat.reduceEqDiff]
      · have h0 : val l / 2 ^ y = 0 := by
          clear g4 hbl
          generalize val l / 2 ^ y = qq at *
          omega
        rcases Nat.lt_or_ge (val l) (2 ^ y) with h | h
        · exact h
        · have := Nat.div_pos h h2p; omega
    · have p5 : (((val l / 2 ^ y % 2 : Nat) : Int) == 0) = false := by
        rw [beq_eq_false_iff_ne]
        clear g4 hbl
        generalize val l / 2 ^ y % 2 = bit at *
        omega
      simp only [simB, zbo, Nat.reduceBEq, own0, ↓reduceIte, Nat.reduceEqDiff, Nat.reduceAdd, simL, h3, h4, p1, f1, g1, g2, p7, p3, p4, Int.toNat_natCast, e10, g3, g4, p5]
      have hge : 2 ^ y ≤ val l := by
        rcases Nat.lt_or_ge (val l) (2 ^ y) with h | h
        · rw [Nat.div_eq_of_lt h] at hz; exact absurd rfl hz
        · exact h
      rw [blen_of (val l) y hge (by rw [pow1]; exact hv)]
      exact finish_tree _ _ _ _ _ _ (.int .i64 ((y + 1 : Nat) : Int)) _ _ (by simp only [zfr, ↓reduceIte]) rfl rfl
end Go.Ab

/- The reference's Shl. Conditions: limbs in range, not too many. -/
namespace Go.Ab
open Go.Proofs
set_option maxRecDepth 100000
set_option linter.unusedSimpArgs false

theorem low_or (x c r : Nat) (hr : r < 32) (hc : c < 2 ^ r) : (c ||| x * 2 ^ r % 4294967296) = c + x * 2 ^ r % 4294967296 := by
  have e : x * 2 ^ r % 4294967296 = (x % 2 ^ (32 - r)) * 2 ^ r := by
    rw [show (4294967296 : Nat) = 2 ^ (32 - r) * 2 ^ r by rw [← Nat.pow_add, show 32 - r + r = 32 by omega], Nat.mul_mod_mul_right]
  rw [e]; exact shl_or _ _ _ hc
theorem digit_small (o : List Nat) (h : Limbs o) (j C : Nat) (hv : val o < B ^ j * C) : o.getD j 0 < C := by
  rw [← digit o h j]
  have : val o / B ^ j < C := by rw [Nat.div_lt_iff_lt_mul (Nat.pow_pos (by decide)), Nat.mul_comm]; exact hv
  exact Nat.lt_of_le_of_lt (Nat.mod_le _ _) this
theorem rshl_lt (a : List Nat) (ha : Limbs a) (w r i : Nat) : B ^ w * (2 ^ r * val (a.take i)) < B ^ (i + w) * 2 ^ r := by
  have h := val_take_lt a ha i
  rw [Nat.add_comm i w, Nat.pow_add, Nat.mul_assoc, Nat.mul_comm (B ^ i) (2 ^ r)]
  exact Nat.mul_lt_mul_of_pos_left (Nat.mul_lt_mul_of_pos_left h (Nat.two_pow_pos r)) (Nat.pow_pos (by decide))
theorem rshl_step (a o : List Nat) (w r i : Nat) (hl : i + w + 1 < o.length) (h0 : o.getD (i + w + 1) 0 = 0) (h : val o = B ^ w * (2 ^ r * val (a.take i))) :
    val ((o.set (i + w) (o.getD (i + w) 0 + a.getD i 0 * 2 ^ r % 4294967296)).set (i + w + 1) (a.getD i 0 * 2 ^ r / 4294967296)) = B ^ w * (2 ^ r * val (a.take (i + 1))) := by
  have h1 := val_set o (i + w) (o.getD (i + w) 0 + a.getD i 0 * 2 ^ r % 4294967296) (by omega)
  have h2 := val_set (o.set (i + w) (o.getD (i + w) 0 + a.getD i 0 * 2 ^ r % 4294967296)) (i + w + 1) (a.getD i 0 * 2 ^ r / 4294967296) (by rw [List.length_set]; exact hl)
  rw [getD_set_ne _ _ _ _ (by omega), h0, Nat.mul_zero, Nat.add_zero] at h2
  rw [Nat.mul_add] at h1
  rw [h2, val_take_succ']
  generalize a.getD i 0 = x at *
  have e : B ^ (i + w) * (x * 2 ^ r % 4294967296) + B ^ (i + w + 1) * (x * 2 ^ r / 4294967296) = B ^ (i + w) * (x * 2 ^ r) := by
    rw [Nat.pow_succ, Nat.mul_assoc, ← Nat.mul_add]
    have : x * 2 ^ r % 4294967296 + B * (x * 2 ^ r / 4294967296) = x * 2 ^ r := Nat.mod_add_div _ _
    rw [this]
  have e2 : B ^ w * (2 ^ r * (val (a.take i) + B ^ i * x)) = B ^ w * (2 ^ r * val (a.take i)) + B ^ (i + w) * (x * 2 ^ r) := by
    rw [Nat.mul_add, Nat.mul_add, Nat.add_comm i w, Nat.pow_add]
    congr 1
    rw [Nat.mul_assoc]
    congr 1
    rw [Nat.mul_comm (2 ^ r), Nat.mul_assoc]
  omega
theorem rshl_eq (n d : Nat) (b : Gk) (l : List Nat) (z : Int) (hl : Limbs l) (hn : l.length + 200 < n) (hll : l.length ≤ 100000) :
    evalFn Tryz.prog cfg0 n (d+2) 113 [.tree (encL b l), .tree (.int .i64 z)] = some (.tree (encF (val l * 2 ^ shn z)), [[], []]) := by
  rw [evalFn_go _ Tryz.func113 (by unfold Tryz.f113; rfl) (by unfold Tryz.f113; decide) (Nat.le_of_ble_eq_true (by unfold Tryz.f113; rfl)) (by kernel_rfl)]
  have a1 : foldA max2A (.int .i64 z) [.int .i64 0] = some (.int .i64 (if 0 > z then 0 else z)) := by
    simp only [foldA, max2A, Option.bind_some]
  have a2 : foldA min2A (.int .i64 (if 0 > z then 0 else z)) [.int .i64 4096] = some (.int .i64 ((shn z : Nat) : Int)) := by
    simp only [foldA, min2A, Option.bind_some, shn]
    congr 2
    split <;> split <;> (try split) <;> omega
  have hk : shn z ≤ 4096 := by simp only [shn]; split <;> omega
  generalize shn z = k at *
  have e1 := i_quo Tryz.prog 3 k 32 (by decide) (by omega)
  have e2 := i_rem Tryz.prog 3 k 32 (by decide)
  rw [show ((32 : Nat) : Int) = 32 from rfl] at e1 e2
  have hkw : k = 32 * (k / 32) + k % 32 := by omega
  have hw : k / 32 ≤ 128 := by omega
  have hr : k % 32 < 32 := by omega
  generalize k / 32 = w at *
  generalize k % 32 = r at *
  have e3 := i_add Tryz.prog 3 (l.length : Int) (w : Int) (by omega) (by omega)
  have e4 := i_add Tryz.prog 3 ((l.length : Int) + (w : Int)) 1 (by omega) (by omega)
  have e5 := make22 18 dead ((l.length : Int) + (w : Int) + 1) (by omega) (by omega)
  rw [show ((l.length : Int) + (w : Int) + 1).toNat = l.length + w + 1 by omega] at e5
  have e6 : (dead 18).t + 1 = 1 := rfl
  have e10 : ∀ s, convA Tryz.prog 3 97 s (.int .i64 (r : Int)) = some (.int .u64 (r : Int)) := fun s => conv3_42 s r (by omega)
  simp only [simB, zbo, Nat.reduceBEq, own0, ↓reduceIte, Nat.reduceEqDiff, Nat.reduceAdd, simA, simL, st0_2, a1, a2, e1, e3, e4, e5, e6, den_loop]
  refine loop_ends (X := Nat × List Nat) (fun x env s => env 0 = encL b l ∧ env 5 = .int .i64 (k : Int) ∧ env 6 = .own 18 1 0 (l.length + w + 1) 1 ∧ env 7 = .int .i64 (x.1 : Int) ∧ s 18 = ⟨1, .buf (encC x.2)⟩ ∧ x.1 ≤ l.length ∧ x.2.length = l.length + w + 1 ∧ Limbs x.2 ∧ val x.2 = B ^ w * (2 ^ r * val (l.take x.1))) (fun x => l.length - x.1) (fun _ => (.tree (encF (val l * 2 ^ k)), [[], []])) ?_ n (0, List.replicate (l.length + w + 1) 0) _ _ (by simp only; omega) ⟨rfl, rfl, rfl, rfl, rfl, by simp, by simp, ?_, by simp [val, val_rep]⟩
  rotate_left
  · intro x hx; rw [List.eq_of_mem_replicate hx]; decide
  intro k' ⟨i, o⟩ hx ih env s ⟨h0, h5, h6, h7, hs, hi, hol, hoL, hv⟩
  simp only at h0 h5 h6 h7 hs hi hol hoL hv hx
  by_cases hp : i = l.length
  · subst hp
    have q1 : ¬ ((l.length : Int) < (l.length : Int)) := by omega
    obtain ⟨s9, e9⟩ := rnorm_hold n d s (.own 18 1 0 (l.length + w + 1) 1) o (.inr (.inr ⟨18, 1, by rw [hol], hs⟩)) hoL (by omega) (by omega) 70
    have hfin : val o = val l * 2 ^ k := by
      rw [hv, List.take_length, hkw, Nat.pow_add, ← B_pow, Nat.mul_comm (val l), Nat.mul_assoc]
    simp only [simB, zbo, Nat.reduceBEq, own0, ↓reduceIte, Nat.reduceEqDiff, Nat.reduceAdd, simL, h0, h5, h6, h7, q1, e9]
    rw [hfin]
    exact finish_F _ _ _ _ _ _ _ (by simp only [zfr, ↓reduceIte]) rfl
  · have q1 : (i : Int) < (l.length : Int) := by omega
    have q2 : (0 : Int) ≤ (i : Int) := by omega
    have q3 : i < l.length := by omega
    have hx1 := getD_lt l hl i
    have hsm := digit_small o hoL (i + w) (2 ^ r) (by rw [hv]; exact rshl_lt l hl w r i)
    have hz0 : o.getD (i + w + 1) 0 = 0 := by
      refine digit_0 o hoL _ ?_
      rw [hv]
      refine Nat.lt_of_lt_of_le (rshl_lt l hl w r i) ?_
      rw [Nat.pow_succ]
      exact Nat.mul_le_mul_left _ (show 2 ^ r ≤ 2 ^ 32 from Nat.pow_le_pow_right (by decide) (by omega))
    have hst := rshl_step l o w r i (by omega) hz0 hv
    obtain ⟨hS, hC⟩ := shl_lt (l.getD i 0) 0 r hx1 hr (Nat.two_pow_pos r)
    rw [Nat.zero_add] at hS hC
    have hor := low_or (l.getD i 0) (o.getD (i + w) 0) r hr hsm
    have hlow := getD_lt o hoL (i + w)
    have f1 := u_shl Tryz.prog 96 (l.getD i 0) .u64 (r : Int) (by omega) (by omega)
    rw [Int.toNat_natCast, Nat.mod_eq_of_lt (by omega)] at f1
    generalize hgS : l.getD i 0 * 2 ^ r = S at *
    have hSB : S / 4294967296 < 4294967296 := by omega
    have f2 := s_or Tryz.prog 57 (o.getD (i + w) 0) (S % 4294967296) hlow (Nat.mod_lt _ (by decide))
    have hol2 : (o.getD (i + w) 0 ||| S % 4294967296) < 2 ^ 32 := Nat.or_lt_two_pow hlow (Nat.mod_lt _ (by decide))
    rw [hor] at f2 hol2
    have f3 := u_shr Tryz.prog 96 S .u64 32 (by decide) (by decide)
    rw [show (2 : Nat) ^ (32 : Int).toNat = 4294967296 from rfl] at f3
    have f4 := i_add Tryz.prog 3 (i : Int) 1 (by omega) (by omega)
    have f5 := i_add Tryz.prog 3 (i : Int) (w : Int) (by omega) (by omega)
    have f6 := i_add Tryz.prog 3 ((i : Int) + (w : Int)) 1 (by omega) (by omega)
    have g1 := ia_own s 18 1 _ (l.length + w + 1) .i64 ((i : Int) + (w : Int)) hs (by omega) (by omega)
    rw [show ((i : Int) + (w : Int)).toNat = i + w by omega] at g1
    have g2 := ld_own s 18 1 o (i + w) hs (by omega)
    have g3 := st31 s 18 1 _ (i + w) (o.getD (i + w) 0 + S % 4294967296) hs (by omega)
    have hs2 : (upd s 18 ⟨1, .buf (encC (o.set (i + w) (o.getD (i + w) 0 + S % 4294967296)))⟩) 18 = ⟨1, .buf (encC (o.set (i + w) (o.getD (i + w) 0 + S % 4294967296)))⟩ := upd_self _ _ _
    have g4 := ia_own _ 18 1 _ (l.length + w + 1) .i64 ((i : Int) + (w : Int) + 1) hs2 (by omega) (by omega)
    rw [show ((i : Int) + (w : Int) + 1).toNat = i + w + 1 by omega] at g4
    have g5 := ld_own _ 18 1 _ (i + w + 1) hs2 (by rw [List.length_set]; omega)
    rw [getD_set_ne _ _ _ _ (by omega), hz0] at g5
    have g6 := st31 _ 18 1 _ (i + w + 1) (S / 4294967296) hs2 (by rw [List.length_set]; omega)
    have f7 := s_or Tryz.prog 57 0 (S / 4294967296 % 4294967296) (by decide) (Nat.mod_lt _ (by decide))
    rw [Nat.zero_or, Nat.mod_eq_of_lt hSB] at f7
    simp only [simB, zbo, Nat.reduceBEq, own0, ↓reduceIte, Nat.reduceEqDiff, Nat.reduceAdd, simL, h0, h5, h6, h7, q1, q2, q3, Int.toNat_natCast, hx1, e1, e2, e10, f1, f2, f3, f4, f5, f6, g1, g2, g3, g4, g5, g6, Nat.mod_eq_of_lt hSB, f7]
    refine ih (i + 1, (o.set (i + w) (o.getD (i + w) 0 + S % 4294967296)).set (i + w + 1) (S / 4294967296)) _ _ (by simp only; omega) rfl ⟨?_, ?_, ?_, ?_, ?_, ?_, ?_, ?_, hst⟩
    · simp only [zfr, ↓reduceIte, Nat.reduceEqDiff, h0]
    · simp only [zfr, ↓reduceIte, Nat.reduceEqDiff, h5]
    · simp only [zfr, ↓reduceIte, Nat.reduceEqDiff, h6]
    · simp only [zfr, ↓reduceIte, Nat.reduceEqDiff]; rfl
    · rw [upd_self]
    · simp only; omega
    · simp only [List.length_set]; exact hol
    · exact limbs_set _ (limbs_set _ hoL _ _ hol2) _ _ hSB
end Go.Ab

/- The reference's Div. Conditions: limbs in range, not too many. -/
namespace Go.Ab
open Go.Proofs
set_option maxRecDepth 100000
set_option linter.unusedSimpArgs false

theorem num_F (v k : Nat) (hk : k ≤ 1000) (h : v < B ^ k) : Num (encF v) v := ⟨_, sh_L _ _, limbs_digs v, Nat.le_trans (digs_len v k h) hk, val_digs v⟩
section
variable (n d : Nat) (hn : 100000 ≤ n) (D : Nat) (s : St)
include hn
theorem rcCmp {w w' : AV} {v v' : Nat} (h : Num w v) (h' : Num w' v') : callA cfg0 (evalFn Tryz.prog cfg0 n (d+2)) D s 70 [w, w'] = some (.int .i64 (cmpZ v v'), s) := by
  obtain ⟨l, hs, hl, hk, rfl⟩ := h
  obtain ⟨l', hs', hl', hk', rfl⟩ := h'
  exact callA_S2 _ D s 70 hs hs' _ fun b b' => rcmp_eq n d b b' l l' hl hl' (by omega) (by omega) (by omega) (by omega)
theorem rcAdd {w w' : AV} {v v' : Nat} (h : Num w v) (h' : Num w' v') : callA cfg0 (evalFn Tryz.prog cfg0 n (d+2)) D s 109 [w, w'] = some (encF (v + v'), s) := by
  obtain ⟨l, hs, hl, hk, rfl⟩ := h
  obtain ⟨l', hs', hl', hk', rfl⟩ := h'
  exact callA_S2 _ _ _ _ hs hs' _ fun b b' => radd_eq n d b b' l l' hl hl' (by omega) (by omega) (by omega) (by omega)
theorem rcSub {w w' : AV} {v v' : Nat} (h : Num w v) (h' : Num w' v') : callA cfg0 (evalFn Tryz.prog cfg0 n (d+3)) D s 110 [w, w'] = some (encS v v', s) := by
  obtain ⟨l, hs, hl, hk, rfl⟩ := h
  obtain ⟨l', hs', hl', hk', rfl⟩ := h'
  exact callA_S2 _ _ _ _ hs hs' _ fun b b' => rsub_eq n d b b' l l' hl hl' (by omega) (by omega) (by omega) (by omega)
theorem rcShl {w : AV} {v : Nat} (h : Num w v) (z : Int) : callA cfg0 (evalFn Tryz.prog cfg0 n (d+2)) D s 113 [w, .int .i64 z] = some (encF (v * 2 ^ shn z), s) := by
  obtain ⟨l, hs, hl, hk, rfl⟩ := h
  exact callA_Si _ _ _ _ hs _ _ _ fun b => rshl_eq n d b l z hl (by omega) (by omega)
theorem rcLen {w : AV} {v : Nat} (h : Num w v) : callA cfg0 (evalFn Tryz.prog cfg0 n (d+2)) D s 112 [w] = some (.int .i64 ((blen v : Nat) : Int), s) := by
  obtain ⟨l, hs, hl, hk, rfl⟩ := h
  exact callA_S1 _ D s 112 hs _ fun b => rlen_eq n d b l hl (by omega) (by omega)
end
end Go.Ab
