/- Several texts put together: AbeA7a, AbeA7, AbeA9, AbeT1, AbeT2, AbeT3, AbeT4, AbeT6, AbeX0, AbeT7, AbeT8, AbeT9, AbeT10, AbeT12, AbeT13, AbeT14, AbeT15, AbeT16, AbMono, AbeT17, AbeOp, AbeOp2, AbeT20, AbeT18, AbeT19, AbeR1, AbeR2, AbeR3, AbeR4, AbeR5, AbeR6, AbeR7, AbeR8, AbeR9, AbeA18, AbeT21, AbeT22, AbeT23, AbeT24, AbeB1, AbeB2, AbeB3, AbeA21, AbeR10, AbeA22, AbMn3, AbMn4, AbMn5, AbMn6, AbMn7, AbeA23, AbeA24, AbeA25, AbeA12, AbeA13, AbeA14, AbeA15, AbeA10, AbeA26, AbeA11, AbeA27, AbeA8, AbeA9o, AbeA28, AbMn8, AbeX1, AbeX2, AbeA19, AbeX3, AbeX4, AbeB4, AbeY1, AbeY2, AbeY3, AbeY4, AbeY5. Conditions: as each part says. -/
import Derived.Test.YticeekdofpdcoaaAbENumZ04
import Derived.Test.YticeekdofpdcoaaAbENumZ00
import Derived.Test.YticeekdofpdcoaaAbENumZ03
import Derived.Laws.Sem
/- Shifts of numbers. Conditions: numbers that are shown. -/
namespace Go.Ab
open Go.Proofs
set_option maxRecDepth 100000
set_option linter.unusedSimpArgs false

theorem intZ_no {z : Int} (h : isI64 z = false) : intZ z = .tup [.int .i64 0, .bool false] := by rw [intZ, if_neg (by rw [h]; decide)]
theorem intZ_is {z : Int} (h : isI64 z = true) : intZ z = .tup [.int .i64 z, .bool true] := by rw [intZ, if_pos h]
theorem isI64_iff (z : Int) : isI64 z = true ↔ -9223372036854775808 ≤ z ∧ z < 9223372036854775808 := by
  unfold isI64; simp
theorem un_negi (x : Int) (h : -9223372036854775807 ≤ x) (h' : x ≤ 9223372036854775807) : unA .neg (.int .i64 x) = some (.int .i64 (-x)) := by
  have := i64_wrap (0 - x) (by omega) (by omega)
  simp only [unA, this]
  congr 2; omega
theorem max_abs (x : Int) : foldA max2A (.int .i64 x) [.int .i64 (-x)] = some (.int .i64 (x.natAbs : Int)) := by
  simp only [foldA, max2A, Option.bind_some]
  congr 2
  split <;> omega
theorem cAddOne (n d : Nat) (hn : 100000 ≤ n) (D : Nat) (s : St) (v : Nat) (h : v < B ^ 12) : callA cfg0 (evalFn Try.prog cfg0 n (d+2)) D s 70 [encR v, .sl [.int .u32 1] 1 .tight] = some (encR (v + 1), s) :=
  cAdd n d hn D s (num_R v 12 (by decide) h) (num_one 1 (by decide))
theorem cSubOne (n d : Nat) (hn : 100000 ≤ n) (D : Nat) (s : St) (g : Gk) (z : Int) (h : z.natAbs < B ^ 12) : callA cfg0 (evalFn Try.prog cfg0 n (d+4)) D s 71 [encL g (digs z.natAbs), .sl [.int .u32 1] 1 .tight] = some (encR (z.natAbs - 1), s) :=
  cSub n d hn D s (num_can g z h) (num_one 1 (by decide))
theorem lessK (z' : Int) (back : Bool) : (if back = true then -z' else z') = if (!(decide (z' < 0) == back)) = true then -(z'.natAbs : Int) else (z'.natAbs : Int) := by
  cases back <;> by_cases h : z' < 0 <;> simp [h] <;> omega
theorem far_down (z k : Int) (h : z.natAbs < B ^ 12) (hk : k < -10000) : madeV (shZ z k) = .tup [encZ (if z < 0 then -1 else 0), .bool true] := by
  obtain ⟨N, rfl⟩ : ∃ N : Nat, k = -(N : Int) := ⟨k.natAbs, by omega⟩
  rw [far_down0 z N h (by omega)]
  refine madeV_fit ?_
  have : 1 < B ^ 12 := Nat.one_lt_pow (by decide) (by decide)
  split
  · exact this
  · exact Nat.lt_of_succ_lt this
theorem far_up (z k : Int) (h0 : z ≠ 0) (_h : z.natAbs < B ^ 12) (hk : 384 < k) : madeV (shZ z k) = .tup [encZ 0, .bool false] := by
  obtain ⟨N, rfl⟩ : ∃ N : Nat, k = (N : Int) := ⟨k.toNat, by omega⟩
  rw [madeV, mkZ_not (far_up0 z N h0 (by omega))]
theorem forgetS {P : Program} {cfg : Cfg} {call : FuncId → List Arg → Option Out} {q : Bool} {all : Array Oper} {d : Option Tmp} {r : List Oper} {K : Kont} {env : Env} {s : St} {out : Option Out} (f : St → Option (AV × St)) (I : Env → St → Prop) (hI : I env s) (h : ∀ env s, I env s → opK P cfg call q all d r K env (f s) = out) :
    opK P cfg call q all d r K env (f s) = out := h env s hI
set_option maxHeartbeats 8000000 in
theorem shift_near (n d : Nat) (hn : 100000 ≤ n) (g g' : Gk) (z z' : Int) (hlt : z.natAbs < B ^ 12) (hlt' : z'.natAbs < B ^ 12) (back : Bool) (h0 : z ≠ 0) (hN : z'.natAbs ≤ 10000) : evalFn Try.prog cfg0 n (d+5) 42 [.tree (canA g z), .tree (canA g' z'), .tree (.bool back)] = some (.tree (madeV (shZ z (if back = true then -z' else z'))), [[], [], []]) := by
  rw [evalFn_go _ Try.func42 (by unfold Try.f42; rfl) (by unfold Try.f42; decide) (Nat.le_of_ble_eq_true (by unfold Try.f42; rfl)) (by kernel_rfl)]
  rw [lessK]
  have c1 := fun D s => cInt n (d + 1) hn (isN_can g' z' hlt') D s
  rw [intZ_is ((isI64_iff z').mpr ⟨by omega, by omega⟩)] at c1
  have en := bool_neq 4 tk4
  generalize hlb : (!(decide (z' < 0) == back)) = lb
  have p0 : (((digs z.natAbs).length : Int) == 0) = false := by
    rw [beq_eq_false_iff_ne]
    intro h
    have := (digs_len0 z.natAbs).mp (by omega)
    omega
  have hbig : ¬ z' > 10000 := by omega
  have hsm : ¬ z' < -10000 := by omega
  have u := un_negi z' (by omega) (by omega)
  have m1 := max_abs z'
  cases lb with
  | true =>
    simp only [if_true]
    simp only [simB, zbo, Nat.reduceBEq, own0, ↓reduceIte, Nat.reduceEqDiff, Nat.reduceAdd, simA, simL, simN, Nat.zero_add, st0_3', c1, en, hlb, ext_0, ext_1, p0, unA_not', Bool.not_true, Bool.not_false, hbig, hsm]
    refine forgetS (fun s => (unA .neg (.int .i64 z')).map (·, s)) (fun env s => env 3 = .ptr 3 1 0 ∧ env 6 = .ptr 6 1 0 ∧ env 8 = .int .i64 z' ∧ env 10 = .bool true ∧ env 56 = .int .i64 z' ∧ s 3 = ⟨1, .buf [.bool (decide (z < 0)), encL g (digs z.natAbs)]⟩ ∧ ∃ x y, s 6 = ⟨1, .buf [x, y]⟩) ⟨by simp only [zfk, ↓reduceIte, Nat.reduceEqDiff], by simp only [zfk, ↓reduceIte, Nat.reduceEqDiff], by simp only [zfk, ↓reduceIte, Nat.reduceEqDiff], by simp only [zfk, ↓reduceIte, Nat.reduceEqDiff], by simp only [zfk, ↓reduceIte, Nat.reduceEqDiff], by simp only [zfk, ↓reduceIte, Nat.reduceEqDiff], .bool false, .sl [] 0 .nil, by simp only [zfk, ↓reduceIte, Nat.reduceEqDiff]⟩ ?_
    intro env s ⟨e3, e6, e8, e10, e56, s3, x, y, s6⟩
    have c3 := fun D s => cShr n (d + 2) hn D s (num_can g z hlt) (z'.natAbs : Int) (by omega)
    rw [Int.toNat_natCast] at c3
    by_cases ha : z < 0
    · have c4 := fun D s => cSubOne n d hn D s g z hlt
      have c5 := fun D s => cShr n (d + 2) hn D s (num_R (z.natAbs - 1) 12 (by decide) (by omega)) (z'.natAbs : Int) (by omega)
      rw [Int.toNat_natCast] at c5
      have hq : (z.natAbs - 1) / 2 ^ z'.natAbs < B ^ 12 := Nat.lt_of_le_of_lt (Nat.div_le_self _ _) (by omega)
      have c6 := fun D s => cAddOne n (d + 2) hn D s ((z.natAbs - 1) / 2 ^ z'.natAbs) hq
      have c7 := fun D s => cMade n (d + 2) hn D s (num_R ((z.natAbs - 1) / 2 ^ z'.natAbs + 1) 13 (by decide) (lt13 hq (Nat.one_lt_pow (by decide) (by decide)))) true
      rw [down_neg z z'.natAbs ha] at c7
      simp only [simB, zbo, Nat.reduceBEq, own0, ↓reduceIte, Nat.reduceEqDiff, Nat.reduceAdd, simA, simL, simN, Nat.zero_add, e3, e6, e8, e10, e56, s3, s6, ext_0, ext_1, unA_not', Bool.not_true, Bool.not_false, u, m1, ha, opA_one, one22_int, c4, c5, c6, c7, madeV_eq, st_Z]
      exact finish_ct _ _ 6 6 1 _ _ _ _ _ _ _ (by simp only [zfk, ↓reduceIte, Nat.reduceEqDiff, e6]) (by simp only [zfk, ↓reduceIte, Nat.reduceEqDiff]) (by simp only [zfk, ↓reduceIte, Nat.reduceEqDiff]) rfl
    · have c7 := fun D s => cMade n (d + 2) hn D s (num_R (z.natAbs / 2 ^ z'.natAbs) 12 (by decide) (Nat.lt_of_le_of_lt (Nat.div_le_self _ _) hlt)) false
      rw [down_pos z z'.natAbs ha] at c7
      simp only [simB, zbo, Nat.reduceBEq, own0, ↓reduceIte, Nat.reduceEqDiff, Nat.reduceAdd, simA, simL, simN, Nat.zero_add, e3, e6, e8, e10, e56, s3, s6, ext_0, ext_1, unA_not', Bool.not_true, Bool.not_false, u, m1, ha, c3, c7, madeV_eq, st_Z]
      exact finish_ct _ _ 6 6 1 _ _ _ _ _ _ _ (by simp only [zfk, ↓reduceIte, Nat.reduceEqDiff, e6]) (by simp only [zfk, ↓reduceIte, Nat.reduceEqDiff]) (by simp only [zfk, ↓reduceIte, Nat.reduceEqDiff]) rfl
  | false =>
    simp only [Bool.false_eq_true, if_false]
    simp only [simB, zbo, Nat.reduceBEq, own0, ↓reduceIte, Nat.reduceEqDiff, Nat.reduceAdd, simA, simL, simN, Nat.zero_add, st0_3', c1, en, hlb, ext_0, ext_1, p0, unA_not', Bool.not_true, Bool.not_false, hbig, hsm]
    refine forgetS (fun s => (unA .neg (.int .i64 z')).map (·, s)) (fun env s => env 3 = .ptr 3 1 0 ∧ env 6 = .ptr 6 1 0 ∧ env 8 = .int .i64 z' ∧ env 10 = .bool false ∧ env 56 = .int .i64 z' ∧ s 3 = ⟨1, .buf [.bool (decide (z < 0)), encL g (digs z.natAbs)]⟩ ∧ ∃ x y, s 6 = ⟨1, .buf [x, y]⟩) ⟨by simp only [zfk, ↓reduceIte, Nat.reduceEqDiff], by simp only [zfk, ↓reduceIte, Nat.reduceEqDiff], by simp only [zfk, ↓reduceIte, Nat.reduceEqDiff], by simp only [zfk, ↓reduceIte, Nat.reduceEqDiff], by simp only [zfk, ↓reduceIte, Nat.reduceEqDiff], by simp only [zfk, ↓reduceIte, Nat.reduceEqDiff], .bool false, .sl [] 0 .nil, by simp only [zfk, ↓reduceIte, Nat.reduceEqDiff]⟩ ?_
    intro env s ⟨e3, e6, e8, e10, e56, s3, x, y, s6⟩
    by_cases hf : (z'.natAbs : Int) > 384
    · rw [far_up z (z'.natAbs : Int) h0 hlt (by omega), encZ_0]
      simp only [simB, zbo, Nat.reduceBEq, own0, ↓reduceIte, Nat.reduceEqDiff, Nat.reduceAdd, simA, simL, simN, Nat.zero_add, e3, e6, e8, e10, e56, s3, s6, ext_0, ext_1, unA_not', Bool.not_true, Bool.not_false, u, m1, hf]
      exact finish_ct _ _ 6 6 1 _ _ _ _ _ _ _ (by simp only [zfk, ↓reduceIte, Nat.reduceEqDiff, e6]) (by simp only [zfk, ↓reduceIte, Nat.reduceEqDiff]) (by simp only [zfk, ↓reduceIte, Nat.reduceEqDiff]) rfl
    · have c3 := qShl n (d + 2) hn (num_can g z hlt) (tree_L _ _) (z'.natAbs : Int)
      have hs : shn (z'.natAbs : Int) = z'.natAbs := by
        unfold shn
        rw [if_neg (by omega)]
        exact Int.toNat_natCast _
      rw [hs] at c3
      have hp : z.natAbs * 2 ^ z'.natAbs < B ^ 25 := by
        have h2 : 2 ^ z'.natAbs ≤ B ^ 13 := le_B 13 _ (by omega)
        rw [show (25 : Nat) = 12 + 13 from rfl, Nat.pow_add]
        exact Nat.mul_lt_mul_of_lt_of_le hlt h2 (Nat.pow_pos (by decide))
      have c4 := qMade n (d + 2) hn (num_R (z.natAbs * 2 ^ z'.natAbs) 25 (by decide) hp) (tree_R _) (decide (z < 0))
      rw [up_sgn z z'.natAbs] at c4
      simp only [simB, zbo, Nat.reduceBEq, own0, ↓reduceIte, Nat.reduceEqDiff, Nat.reduceAdd, simA, simL, simN, Nat.zero_add, e3, e6, e8, e10, e56, s3, s6, ext_0, ext_1, unA_not', Bool.not_true, Bool.not_false, u, m1, hf, c3, c4, madeV_eq, st_Z]
      exact finish_ct _ _ 6 6 1 _ _ _ _ _ _ _ (by simp only [zfk, ↓reduceIte, Nat.reduceEqDiff, e6]) (by simp only [zfk, ↓reduceIte, Nat.reduceEqDiff]) (by simp only [zfk, ↓reduceIte, Nat.reduceEqDiff]) rfl
end Go.Ab

/- Shifts of numbers, however far. Conditions: numbers that are shown. -/
namespace Go.Ab
open Go.Proofs
set_option maxRecDepth 100000
set_option linter.unusedSimpArgs false

set_option maxHeartbeats 8000000 in
theorem shift_eq (n d : Nat) (hn : 100000 ≤ n) (g g' : Gk) (z z' : Int) (hlt : z.natAbs < B ^ 12) (hlt' : z'.natAbs < B ^ 12) (back : Bool) : evalFn Try.prog cfg0 n (d+5) 42 [.tree (canA g z), .tree (canA g' z'), .tree (.bool back)] = some (.tree (madeV (shZ z (if back = true then -z' else z'))), [[], [], []]) := by
  by_cases hnear : z ≠ 0 ∧ z'.natAbs ≤ 10000
  · exact shift_near n d hn g g' z z' hlt hlt' back hnear.1 hnear.2
  rw [evalFn_go _ Try.func42 (by unfold Try.f42; rfl) (by unfold Try.f42; decide) (Nat.le_of_ble_eq_true (by unfold Try.f42; rfl)) (by kernel_rfl)]
  rw [lessK]
  have c1 := fun D s => cInt n (d + 1) hn (isN_can g' z' hlt') D s
  have en := bool_neq 4 tk4
  generalize hlb : (!(decide (z' < 0) == back)) = lb
  by_cases h0 : z = 0
  · have p0 : (((digs z.natAbs).length : Int) == 0) = true := by rw [h0]; simp [digs_0]
    have hm : madeV (shZ z (if lb = true then -(z'.natAbs : Int) else (z'.natAbs : Int))) = .tup [encZ 0, .bool true] := by rw [h0, shZ_0, madeV_fit (Nat.pow_pos (by decide))]
    rw [hm, encZ_0]
    cases hi : isI64 z' with
    | false =>
      rw [intZ_no hi] at c1
      simp only [simB, zbo, Nat.reduceBEq, own0, ↓reduceIte, Nat.reduceEqDiff, Nat.reduceAdd, simA, simL, simN, Nat.zero_add, st0_3', c1, en, hlb, ext_0, ext_1, p0]
      exact finish_ct _ _ 6 6 1 _ _ _ _ _ _ _ (by simp only [zfk, ↓reduceIte, Nat.reduceEqDiff]) (by simp only [zfk, ↓reduceIte, Nat.reduceEqDiff]) (by simp only [zfk, ↓reduceIte, Nat.reduceEqDiff]) rfl
    | true =>
      rw [intZ_is hi] at c1
      simp only [simB, zbo, Nat.reduceBEq, own0, ↓reduceIte, Nat.reduceEqDiff, Nat.reduceAdd, simA, simL, simN, Nat.zero_add, st0_3', c1, en, hlb, ext_0, ext_1, p0]
      exact finish_ct _ _ 6 6 1 _ _ _ _ _ _ _ (by simp only [zfk, ↓reduceIte, Nat.reduceEqDiff]) (by simp only [zfk, ↓reduceIte, Nat.reduceEqDiff]) (by simp only [zfk, ↓reduceIte, Nat.reduceEqDiff]) rfl
  have p0 : (((digs z.natAbs).length : Int) == 0) = false := by
    rw [beq_eq_false_iff_ne]
    intro h
    have := (digs_len0 z.natAbs).mp (by omega)
    omega
  have cm1 := fun D s => cOf64 n (d + 1) hn (-1) (by decide) (by decide) D s
  have hnab : ∀ x : Int, x.natAbs ≤ 10000 ↔ -10000 ≤ x ∧ x ≤ 10000 := fun x => by omega
  cases hi : isI64 z' with
  | false =>
    rw [intZ_no hi] at c1
    have hni : ¬ (-9223372036854775808 ≤ z' ∧ z' < 9223372036854775808) := fun h => by
      have := (isI64_iff z').mpr h; rw [hi] at this; cases this
    have hN : 10000 < z'.natAbs := by omega
    cases lb with
    | true =>
      have hm := far_down z (-(z'.natAbs : Int)) hlt (by omega)
      simp only [if_true]
      rw [hm]
      by_cases ha : z < 0
      · rw [if_pos ha]
        simp only [simB, zbo, Nat.reduceBEq, own0, ↓reduceIte, Nat.reduceEqDiff, Nat.reduceAdd, simA, simL, simN, Nat.zero_add, st0_3', c1, en, hlb, ext_0, ext_1, p0, unA_not', Bool.not_true, Bool.not_false, ha, cm1, st_Z, Bool.false_eq_true]
        exact finish_ct _ _ 6 6 1 _ _ _ _ _ _ _ (by simp only [zfk, ↓reduceIte, Nat.reduceEqDiff]) (by simp only [zfk, ↓reduceIte, Nat.reduceEqDiff]) (by simp only [zfk, ↓reduceIte, Nat.reduceEqDiff]) rfl
      · rw [if_neg ha, encZ_0]
        simp only [simB, zbo, Nat.reduceBEq, own0, ↓reduceIte, Nat.reduceEqDiff, Nat.reduceAdd, simA, simL, simN, Nat.zero_add, st0_3', c1, en, hlb, ext_0, ext_1, p0, unA_not', Bool.not_true, Bool.not_false, ha, Bool.false_eq_true]
        exact finish_ct _ _ 6 6 1 _ _ _ _ _ _ _ (by simp only [zfk, ↓reduceIte, Nat.reduceEqDiff]) (by simp only [zfk, ↓reduceIte, Nat.reduceEqDiff]) (by simp only [zfk, ↓reduceIte, Nat.reduceEqDiff]) rfl
    | false =>
      have hm := far_up z (z'.natAbs : Int) h0 hlt (by omega)
      simp only [Bool.false_eq_true, if_false]
      rw [hm, encZ_0]
      simp only [simB, zbo, Nat.reduceBEq, own0, ↓reduceIte, Nat.reduceEqDiff, Nat.reduceAdd, simA, simL, simN, Nat.zero_add, st0_3', c1, en, hlb, ext_0, ext_1, p0, unA_not', Bool.not_true, Bool.not_false, Bool.false_eq_true]
      exact finish_ct _ _ 6 6 1 _ _ _ _ _ _ _ (by simp only [zfk, ↓reduceIte, Nat.reduceEqDiff]) (by simp only [zfk, ↓reduceIte, Nat.reduceEqDiff]) (by simp only [zfk, ↓reduceIte, Nat.reduceEqDiff]) rfl
  | true =>
    rw [intZ_is hi] at c1
    have hii := (isI64_iff z').mp hi
    by_cases hbig : z' > 10000
    · have hX : True := trivial
      have hN : 10000 < z'.natAbs := by omega
      cases lb with
      | true =>
        have hm := far_down z (-(z'.natAbs : Int)) hlt (by omega)
        simp only [if_true]
        rw [hm]
        by_cases ha : z < 0
        · rw [if_pos ha]
          simp only [simB, zbo, Nat.reduceBEq, own0, ↓reduceIte, Nat.reduceEqDiff, Nat.reduceAdd, simA, simL, simN, Nat.zero_add, st0_3', c1, en, hlb, ext_0, ext_1, p0, unA_not', Bool.not_true, Bool.not_false, ha, cm1, st_Z, hbig]
          exact finish_ct _ _ 6 6 1 _ _ _ _ _ _ _ (by simp only [zfk, ↓reduceIte, Nat.reduceEqDiff]) (by simp only [zfk, ↓reduceIte, Nat.reduceEqDiff]) (by simp only [zfk, ↓reduceIte, Nat.reduceEqDiff]) rfl
        · rw [if_neg ha, encZ_0]
          simp only [simB, zbo, Nat.reduceBEq, own0, ↓reduceIte, Nat.reduceEqDiff, Nat.reduceAdd, simA, simL, simN, Nat.zero_add, st0_3', c1, en, hlb, ext_0, ext_1, p0, unA_not', Bool.not_true, Bool.not_false, ha, hbig]
          exact finish_ct _ _ 6 6 1 _ _ _ _ _ _ _ (by simp only [zfk, ↓reduceIte, Nat.reduceEqDiff]) (by simp only [zfk, ↓reduceIte, Nat.reduceEqDiff]) (by simp only [zfk, ↓reduceIte, Nat.reduceEqDiff]) rfl
      | false =>
        have hm := far_up z (z'.natAbs : Int) h0 hlt (by omega)
        simp only [Bool.false_eq_true, if_false]
        rw [hm, encZ_0]
        simp only [simB, zbo, Nat.reduceBEq, own0, ↓reduceIte, Nat.reduceEqDiff, Nat.reduceAdd, simA, simL, simN, Nat.zero_add, st0_3', c1, en, hlb, ext_0, ext_1, p0, unA_not', Bool.not_true, Bool.not_false, hbig]
        exact finish_ct _ _ 6 6 1 _ _ _ _ _ _ _ (by simp only [zfk, ↓reduceIte, Nat.reduceEqDiff]) (by simp only [zfk, ↓reduceIte, Nat.reduceEqDiff]) (by simp only [zfk, ↓reduceIte, Nat.reduceEqDiff]) rfl
    by_cases hsm : z' < -10000
    · have hX : True := trivial
      have hN : 10000 < z'.natAbs := by omega
      cases lb with
      | true =>
        have hm := far_down z (-(z'.natAbs : Int)) hlt (by omega)
        simp only [if_true]
        rw [hm]
        by_cases ha : z < 0
        · rw [if_pos ha]
          simp only [simB, zbo, Nat.reduceBEq, own0, ↓reduceIte, Nat.reduceEqDiff, Nat.reduceAdd, simA, simL, simN, Nat.zero_add, st0_3', c1, en, hlb, ext_0, ext_1, p0, unA_not', Bool.not_true, Bool.not_false, ha, cm1, st_Z, hbig, hsm]
          exact finish_ct _ _ 6 6 1 _ _ _ _ _ _ _ (by simp only [zfk, ↓reduceIte, Nat.reduceEqDiff]) (by simp only [zfk, ↓reduceIte, Nat.reduceEqDiff]) (by simp only [zfk, ↓reduceIte, Nat.reduceEqDiff]) rfl
        · rw [if_neg ha, encZ_0]
          simp only [simB, zbo, Nat.reduceBEq, own0, ↓reduceIte, Nat.reduceEqDiff, Nat.reduceAdd, simA, simL, simN, Nat.zero_add, st0_3', c1, en, hlb, ext_0, ext_1, p0, unA_not', Bool.not_true, Bool.not_false, ha, hbig, hsm]
          exact finish_ct _ _ 6 6 1 _ _ _ _ _ _ _ (by simp only [zfk, ↓reduceIte, Nat.reduceEqDiff]) (by simp only [zfk, ↓reduceIte, Nat.reduceEqDiff]) (by simp only [zfk, ↓reduceIte, Nat.reduceEqDiff]) rfl
      | false =>
        have hm := far_up z (z'.natAbs : Int) h0 hlt (by omega)
        simp only [Bool.false_eq_true, if_false]
        rw [hm, encZ_0]
        simp only [simB, zbo, Nat.reduceBEq, own0, ↓reduceIte, Nat.reduceEqDiff, Nat.reduceAdd, simA, simL, simN, Nat.zero_add, st0_3', c1, en, hlb, ext_0, ext_1, p0, unA_not', Bool.not_true, Bool.not_false, hbig, hsm]
        exact finish_ct _ _ 6 6 1 _ _ _ _ _ _ _ (by simp only [zfk, ↓reduceIte, Nat.reduceEqDiff]) (by simp only [zfk, ↓reduceIte, Nat.reduceEqDiff]) (by simp only [zfk, ↓reduceIte, Nat.reduceEqDiff]) rfl
    exact absurd ⟨h0, by omega⟩ hnear
end Go.Ab

/- What the number statements ask besides. Conditions: limbs in range. -/
namespace Go.Ab
open Go.Proofs
set_option maxRecDepth 100000
set_option linter.unusedSimpArgs false

section
variable (n d : Nat) (hn : 100000 ≤ n)
include hn
end
end Go.Ab

/- Terms as structs: their cells, read and written. No conditions. -/
namespace Go.Ab
open Go.Proofs
set_option maxRecDepth 100000
set_option linter.unusedSimpArgs false

theorem tkT : tkOf Try.prog 28 = .st := by kernel_rfl
theorem eszT : esz Try.prog 28 = some 6 := by kernel_rfl
theorem shT : shOf Try.prog 28 = some (true, 6) := by kernel_rfl
theorem zeroT : zeroOf Try.prog 28 = some [.int .i64 0, .bool false, .sl [] 0 .nil, .str [], .int .i64 0, .sl [] 0 .nil] := by kernel_rfl
theorem plT : placesA Try.prog 28 = some [(0, 1), (1, 2), (3, 1), (4, 1), (5, 1)] := by kernel_rfl
theorem fdT0 : fieldOf Try.prog 28 0 = some (3, 0) := by kernel_rfl
theorem fdT1 : fieldOf Try.prog 28 1 = some (25, 1) := by kernel_rfl
theorem fdT2 : fieldOf Try.prog 28 2 = some (9, 3) := by kernel_rfl
theorem fdT3 : fieldOf Try.prog 28 3 = some (3, 4) := by kernel_rfl
theorem fdT4 : fieldOf Try.prog 28 4 = some (26, 5) := by kernel_rfl
theorem eszTi : esz Try.prog 3 = some 1 := by kernel_rfl
theorem eszTs : esz Try.prog 9 = some 1 := by kernel_rfl
theorem eszTk : esz Try.prog 26 = some 1 := by kernel_rfl
theorem shTi : shOf Try.prog 3 = some (false, 1) := by kernel_rfl
theorem shTs : shOf Try.prog 9 = some (false, 1) := by kernel_rfl
theorem shTk : shOf Try.prog 26 = some (false, 1) := by kernel_rfl
theorem tkTk : tkOf Try.prog 26 = .sl 28 := by kernel_rfl
theorem faT_0 (s : St) (p k off : Nat) : fieldAddrA Try.prog 28 s (.ptr p k off) 0 = faE (s p) p k off := by
  simp only [fieldAddrA, fdT0, eszTi, live, cellsAt_E, faE, Nat.add_zero]
theorem faT_1 (s : St) (p k off : Nat) : fieldAddrA Try.prog 28 s (.ptr p k off) 1 = faE (s p) p k (off + 1) := by
  simp only [fieldAddrA, fdT1, esz24, live, cellsAt_E, faE]
theorem faT_2 (s : St) (p k off : Nat) : fieldAddrA Try.prog 28 s (.ptr p k off) 2 = faE (s p) p k (off + 3) := by
  simp only [fieldAddrA, fdT2, eszTs, live, cellsAt_E, faE]
theorem faT_3 (s : St) (p k off : Nat) : fieldAddrA Try.prog 28 s (.ptr p k off) 3 = faE (s p) p k (off + 4) := by
  simp only [fieldAddrA, fdT3, eszTi, live, cellsAt_E, faE]
theorem faT_4 (s : St) (p k off : Nat) : fieldAddrA Try.prog 28 s (.ptr p k off) 4 = faE (s p) p k (off + 5) := by
  simp only [fieldAddrA, fdT4, eszTk, live, cellsAt_E, faE]
section
variable (t k : Nat) (a b c d e f : AV)
theorem ldT_a : ldE Try.prog 28 ⟨t, .buf [a, b, c, d, e, f]⟩ k 0 = if t = k then some (.agg [a, b, c, d, e, f]) else none := by
  rw [ldE_buf, cellsE_buf]
  by_cases h : t = k
  · simp [h, partA, shT]
  · simp [h]
theorem ldT_0 : ldE Try.prog 3 ⟨t, .buf [a, b, c, d, e, f]⟩ k 0 = if t = k then some a else none := by
  rw [ldE_buf, cellsE_buf]
  by_cases h : t = k
  · simp [h, partA, shTi]
  · simp [h]
theorem ldT_1 : ldE Try.prog 25 ⟨t, .buf [a, b, c, d, e, f]⟩ k 1 = if t = k then some (.agg [b, c]) else none := by
  rw [ldE_buf, cellsE_buf]
  by_cases h : t = k
  · simp [h, partA, sh24]
  · simp [h]
theorem ldT_2 : ldE Try.prog 9 ⟨t, .buf [a, b, c, d, e, f]⟩ k 3 = if t = k then some d else none := by
  rw [ldE_buf, cellsE_buf]
  by_cases h : t = k
  · simp [h, partA, shTs]
  · simp [h]
theorem ldT_3 : ldE Try.prog 3 ⟨t, .buf [a, b, c, d, e, f]⟩ k 4 = if t = k then some e else none := by
  rw [ldE_buf, cellsE_buf]
  by_cases h : t = k
  · simp [h, partA, shTi]
  · simp [h]
theorem ldT_4 : ldE Try.prog 26 ⟨t, .buf [a, b, c, d, e, f]⟩ k 5 = if t = k then some f else none := by
  rw [ldE_buf, cellsE_buf]
  by_cases h : t = k
  · simp [h, partA, shTk]
  · simp [h]
end
def stT (e : Ent) (p k : Nat) (s : St) (ys : List AV) : Option St :=
  match e with | ⟨t', .buf xs⟩ => if t' = k then (if ys.length ≤ xs.length then some (upd s p ⟨t', .buf (splice xs 0 ys)⟩) else none) else none | _ => none
theorem st_T (s : St) (p k : Nat) (a b c d e f : AV) : storeA Try.prog 28 s (.ptr p k 0) (.agg [a, b, c, d, e, f]) = stT (s p) p k s [a, b, c, d, e, f] := by
  simp only [storeA, settle, Option.bind_some, stT]
  cases h : s p with
  | mk t c => cases c <;> simp [eszT]
theorem bdT_0 (k : Int) : buildA Try.prog 28 [(0, .int .i64 k)] = some (.agg [.int .i64 k, .bool false, .sl [] 0 .nil, .str [], .int .i64 0, .sl [] 0 .nil]) := by
  simp only [buildA, zeroT, tkT, plT, Option.bind_some]; rfl
theorem bdT_1 (k : Int) (b : Bool) (g : Gk) (l : List Nat) : buildA Try.prog 28 [(0, .int .i64 k), (1, .agg [.bool b, encL g l])] = some (.agg [.int .i64 k, .bool b, encL g l, .str [], .int .i64 0, .sl [] 0 .nil]) := by
  simp only [buildA, zeroT, tkT, plT, Option.bind_some]; rfl
theorem bdT_2 (k : Int) (s : List UInt8) : buildA Try.prog 28 [(0, .int .i64 k), (2, .str s)] = some (.agg [.int .i64 k, .bool false, .sl [] 0 .nil, .str s, .int .i64 0, .sl [] 0 .nil]) := by
  simp only [buildA, zeroT, tkT, plT, Option.bind_some]; rfl
theorem lenTk (s : St) (xs : List AV) (m : Nat) (g : Grip) : lenA Try.prog 26 s (.sl xs m g) = some (.int .i64 (m : Int)) := by simp only [lenA, tkTk]
end Go.Ab

/- The term statements' own example, by the kernel's own reckoning. No conditions. -/
namespace Go.Ab
open Go.Proofs
def isOkT : Option Out → Bool
  | some (.tree (.bool true), []) => true
  | _ => false
theorem isOkT_eq {o : Option Out} (h : isOkT o = true) : o = some (.tree (.bool true), []) := by
  unfold isOkT at h
  split at h
  · rfl
  · cases h
end Go.Ab

/- Terms of each kind: compared, the same. Conditions: limbs in range. -/
namespace Go.Ab
open Go.Proofs
set_option maxRecDepth 100000
set_option linter.unusedSimpArgs false

section
variable (b : Bool) (g : Gk) (l : List Nat) (s : List UInt8)
end
end Go.Ab

/- A term of each kind beside itself. Conditions: limbs in range. -/
namespace Go.Ab
open Go.Proofs
set_option maxRecDepth 100000
set_option linter.unusedSimpArgs false

section
variable (b : Bool) (g : Gk) (l : List Nat) (s : List UInt8)
set_option maxHeartbeats 8000000
end
end Go.Ab

/- Terms as trees: their cells; how deep, how many; what term.check asks. No conditions. -/
namespace Go.Ab
open Go.Proofs
set_option maxRecDepth 100000
set_option linter.unusedSimpArgs false

inductive T where
  | mk (k : Int) (b : Bool) (lg : Gk) (l : List Nat) (s : List UInt8) (n : Int) (kg : Gk) (ks : List T)
mutual
def cellsT : T → List AV
  | .mk k b lg l s n kg ks => [.int .i64 k, .bool b, encL lg l, .str s, .int .i64 n, .sl (cellsK ks) ks.length (gr kg)]
def cellsK : List T → List AV
  | [] => []
  | t :: r => cellsT t ++ cellsK r
end
def encT (t : T) : AV := .agg (cellsT t)
mutual
def nodT : T → Nat
  | .mk _ _ _ _ _ _ _ ks => nodK ks + 1
def nodK : List T → Nat
  | [] => 0
  | t :: r => nodT t + nodK r
end
mutual
def htT : T → Nat
  | .mk _ _ _ _ _ _ _ ks => htK ks + 1
def htK : List T → Nat
  | [] => 0
  | t :: r => max (htT t) (htK r)
end
theorem cellsT_len (t : T) : (cellsT t).length = 6 := by cases t; simp only [cellsT]; rfl
theorem cellsK_len : ∀ ks : List T, (cellsK ks).length = ks.length * 6
  | [] => rfl
  | t :: r => by simp only [cellsK, List.length_append, cellsT_len, cellsK_len r, List.length_cons]; omega
theorem cellsK_drop : ∀ (ks : List T) (i : Nat), (cellsK ks).drop (i * 6) = cellsK (ks.drop i)
  | [], i => by simp [cellsK]
  | t :: r, 0 => by simp
  | t :: r, i + 1 => by
    have h : (i + 1) * 6 = (cellsT t).length + i * 6 := by rw [cellsT_len]; omega
    simp only [cellsK, List.drop_succ_cons]
    rw [h, ← List.drop_drop, List.drop_left, cellsK_drop r i]
theorem cellsK_take : ∀ (ks : List T) (i : Nat), (cellsK ks).take (i * 6) = cellsK (ks.take i)
  | [], i => by simp [cellsK]
  | t :: r, 0 => by simp [cellsK]
  | t :: r, i + 1 => by
    have h : (i + 1) * 6 = (cellsT t).length + i * 6 := by rw [cellsT_len]; omega
    simp only [cellsK, List.take_succ_cons]
    rw [h, List.take_length_add_append, cellsK_take r i]
theorem cellsK_append (a b : List T) : cellsK (a ++ b) = cellsK a ++ cellsK b := by
  induction a with
  | nil => rfl
  | cons t r ih => simp only [List.cons_append, cellsK, ih, List.append_assoc]
theorem ia_K (s : St) (ks : List T) (g : Grip) (i : Nat) (h : i < ks.length) : indexAddrA Try.prog 26 s (.sl (cellsK ks) ks.length g) (.int .i64 (i : Int)) = some (.rptr (cellsK (ks.drop i))) := by
  simp only [indexAddrA, tkTk, eszT, Option.bind_some, Int.toNat_natCast]
  rw [if_pos ⟨by omega, by omega⟩, cellsK_drop]
theorem ld_K (s : St) (t : T) (r : List T) : loadA Try.prog 28 s (.rptr (cellsK (t :: r))) = some (encT t) := by
  have h : (cellsT t ++ cellsK r).take 6 = cellsT t := by rw [← cellsT_len t]; simp
  have h2 : 6 ≤ (cellsT t ++ cellsK r).length := by rw [List.length_append, cellsT_len]; omega
  simp only [loadA, partA, shT, cellsK, Nat.zero_add, h2, ↓reduceIte, List.drop_zero, h, encT]
theorem nod_pos (t : T) : 0 < nodT t := by cases t; simp [nodT]
mutual
def wfT : T → Prop
  | .mk _ _ _ l _ _ _ ks => Limbs l ∧ wfK ks
def wfK : List T → Prop
  | [] => True
  | t :: r => wfT t ∧ wfK r
end
theorem nodK_len : ∀ ks : List T, ks.length ≤ nodK ks
  | [] => Nat.le_refl _
  | t :: r => by have := nod_pos t; have := nodK_len r; simp only [nodK, List.length_cons]; omega
theorem kids_ht : ∀ (ks : List T) (i : Nat) (t : T) (r : List T), ks.drop i = t :: r → htT t ≤ htK ks
  | [], i, t, r, h => by simp at h
  | a :: q, 0, t, r, h => by simp only [List.drop_zero, List.cons.injEq] at h; obtain ⟨rfl, rfl⟩ := h; simp only [htK]; omega
  | a :: q, i + 1, t, r, h => by have := kids_ht q i t r (by simpa using h); simp only [htK]; omega
theorem kids_nod : ∀ (ks : List T) (i : Nat) (t : T) (r : List T), ks.drop i = t :: r → nodT t ≤ nodK ks
  | [], i, t, r, h => by simp at h
  | a :: q, 0, t, r, h => by simp only [List.drop_zero, List.cons.injEq] at h; obtain ⟨rfl, rfl⟩ := h; simp only [nodK]; omega
  | a :: q, i + 1, t, r, h => by have := kids_nod q i t r (by simpa using h); simp only [nodK]; omega
theorem kids_wf : ∀ (ks : List T) (i : Nat) (t : T) (r : List T), ks.drop i = t :: r → wfK ks → wfT t
  | [], i, t, r, h, _ => by simp at h
  | a :: q, 0, t, r, h, hw => by simp only [List.drop_zero, List.cons.injEq] at h; obtain ⟨rfl, rfl⟩ := h; simp only [wfK] at hw; exact hw.1
  | a :: q, i + 1, t, r, h, hw => by simp only [wfK] at hw; exact kids_wf q i t r (by simpa using h) hw.2
theorem drop_next {α : Type} {ks : List α} {i : Nat} {t : α} {r : List α} (h : ks.drop i = t :: r) : ks.drop (i + 1) = r := by
  rw [← List.drop_drop, h]; rfl
end Go.Ab

/- Strings: short things. No conditions. -/
namespace Go.Ab
open Go.Proofs
set_option maxRecDepth 100000
set_option linter.unusedSimpArgs false

theorem len9 (s : St) (b : List UInt8) : lenA Try.prog 9 s (.str b) = some (.int .i64 (b.length : Int)) := by simp only [lenA, tk9]
theorem ix9 (b : List UInt8) (k : IntKind) (i : Int) : indexA Try.prog 9 (.str b) (.int k i) = if 0 ≤ i ∧ i < b.length then some (.int .u8 ((b.getD i.toNat 0).toNat : Int)) else none := by simp only [indexA, tk9]
theorem zey (P : Program) (t : TypeId) (a b : List UInt8) : binA P .eql t (.str a) (.str b) = some (.bool (a == b)) := rfl
theorem zez (P : Program) (t : TypeId) (a b : List UInt8) : binA P .neq t (.str a) (.str b) = some (.bool (!(a == b))) := rfl
theorem zfa (s : St) (b : List UInt8) (k : IntKind) (i : Int) : sliceA Try.prog 9 s (.str b) (some (.int k i)) none none = if 0 ≤ i ∧ i ≤ b.length then some (.str (b.drop i.toNat)) else none := by
  simp only [sliceA, tk9, boundA, Option.isSome_none, Bool.false_eq_true, if_false, Option.bind_some]
  split
  · rw [Option.bind_some, List.take_length]
  · rfl
theorem zfb (s : St) (b : List UInt8) (k : IntKind) (i : Int) : sliceA Try.prog 9 s (.str b) none (some (.int k i)) none = if 0 ≤ i ∧ i ≤ b.length then some (.str (b.take i.toNat)) else none := by
  simp only [sliceA, tk9, boundA, Option.isSome_none, Bool.false_eq_true, if_false, Option.bind_some]
  split
  · rfl
  · rfl
def nilE (s : St) : AV → Option (AV × St)
  | .ptr p t off => if live s p t then some (.ptr p t off, s) else none
  | .rptr xs => some (.rptr xs, s)
  | _ => none
theorem opA_nilc {P : Program} {cfg : Cfg} {call : FuncId → List Arg → Option Out} {q : Bool} {d : Option Tmp} {ty : TypeId} {pos : String} {af : Array Edge} {g : Option (Nat × Bool)} {t : Nat} {env : Env} {s : St} (x : Operand) : opA P cfg call q ⟨d, .nilCheck x, ty, pos, af, g⟩ t env s = nilE s (ev env x) := by
  simp only [opA, nilE]
  cases ev env x <;> rfl
theorem nilE_ptr (s : St) (p t off : Nat) : nilE s (.ptr p t off) = if (cellsE (s p) t).isSome = true then some (.ptr p t off, s) else none := by simp only [nilE, live, cellsAt_E]
end Go.Ab

/- Of a term by itself: is it right? No conditions but limbs in range. -/
namespace Go.Ab
open Go.Proofs
set_option maxRecDepth 100000
set_option linter.unusedSimpArgs false

def zeroB (b : Bool) (l : List Nat) : Bool := !b && decide (l.length = 0)
theorem zeroN_eq (n d : Nat) (b : Bool) (g : Gk) (l : List Nat) : evalFn Try.prog cfg0 n (d+1) 89 [.tree (encA b g l)] = some (.tree (.bool (zeroB b l)), [[]]) := by
  rw [evalFn_go _ Try.func89 (by unfold Try.f89; rfl) (by unfold Try.f89; decide) (Nat.le_of_ble_eq_true (by unfold Try.f89; rfl)) (by kernel_rfl)]
  have e : ((l.length : Int) == 0) = decide (l.length = 0) := by rw [Bool.eq_iff_iff, beq_iff_eq, decide_eq_true_eq]; omega
  cases b
  · simp only [simB, zbo, Nat.reduceBEq, own0, ↓reduceIte, Nat.reduceEqDiff, Nat.reduceAdd, simA, simL, simN, Nat.zero_add, encA, unA_not', Bool.not_false, Bool.not_true, e]
    exact finish_b _ _ _ _ _ _ _ ((by simp only [zfk, ↓reduceIte, Nat.reduceEqDiff]; try rfl)) rfl
  · simp only [simB, zbo, Nat.reduceBEq, own0, ↓reduceIte, Nat.reduceEqDiff, Nat.reduceAdd, simA, simL, simN, Nat.zero_add, encA, unA_not', Bool.not_false, Bool.not_true]
    exact finish_b _ _ _ _ _ _ _ ((by simp only [zfk, ↓reduceIte, Nat.reduceEqDiff]; try rfl)) rfl
def okC (c : UInt8) : Bool := decide (33 ≤ c.toNat) && decide (c.toNat ≤ 126)
def nameB (s : List UInt8) : Bool := decide (1 ≤ s.length) && decide (s.length ≤ 40) && s.all okC
theorem name_eq (n d : Nat) (hn : 100 ≤ n) (s : List UInt8) : evalFn Try.prog cfg0 n (d+1) 90 [.tree (.str s)] = some (.tree (.bool (nameB s)), [[]]) := by
  rw [evalFn_go _ Try.func90 (by unfold Try.f90; rfl) (by unfold Try.f90; decide) (Nat.le_of_ble_eq_true (by unfold Try.f90; rfl)) (by kernel_rfl)]
  by_cases h1 : (s.length : Int) < 1
  · have e : nameB s = false := by unfold nameB; rw [decide_eq_false (by omega)]; rfl
    rw [e]
    simp only [simB, zbo, Nat.reduceBEq, own0, ↓reduceIte, Nat.reduceEqDiff, Nat.reduceAdd, simA, simL, zex, List.toList_toArray, len9, ix9, zey, zez, zfa, zfb, zfc, h1]
    exact finish_b _ _ _ _ _ _ _ ((by simp only [zfk, ↓reduceIte, Nat.reduceEqDiff]; try rfl)) rfl
  by_cases h2 : (s.length : Int) > 40
  · have e : nameB s = false := by unfold nameB; rw [decide_eq_false (p := s.length ≤ 40) (by omega)]; simp
    rw [e]
    simp only [simB, zbo, Nat.reduceBEq, own0, ↓reduceIte, Nat.reduceEqDiff, Nat.reduceAdd, simA, simL, zex, List.toList_toArray, len9, ix9, zey, zez, zfa, zfb, zfc, h1, h2]
    exact finish_b _ _ _ _ _ _ _ ((by simp only [zfk, ↓reduceIte, Nat.reduceEqDiff]; try rfl)) rfl
  have e : nameB s = s.all okC := by unfold nameB; rw [decide_eq_true (by omega), decide_eq_true (by omega)]; rfl
  rw [e]
  simp only [simB, zbo, Nat.reduceBEq, own0, ↓reduceIte, Nat.reduceEqDiff, Nat.reduceAdd, simA, simL, zex, List.toList_toArray, len9, ix9, zey, zez, zfa, zfb, zfc, h1, h2, den_loop]
  refine loop_ends (X := Nat) (fun i env s' => env 0 = .str s ∧ env 13 = .int .i64 (s.length : Int) ∧ env 14 = .int .i64 (i : Int) ∧ i ≤ s.length ∧ (s.take i).all okC = true) (fun i => s.length - i) (fun _ => (.tree (.bool (s.all okC)), [[]])) ?_ n 0 _ _ (by omega) ⟨by simp only [zfk, ↓reduceIte, Nat.reduceEqDiff, simA], by simp only [zfk, ↓reduceIte, Nat.reduceEqDiff], by simp only [zfk, ↓reduceIte, Nat.reduceEqDiff]; rfl, Nat.zero_le _, rfl⟩
  intro k i hx ih env st ⟨e0, e1, e2, hi, ha⟩
  by_cases hp : i = s.length
  · subst hp
    have q1 : ¬ ((s.length : Int) < (s.length : Int)) := by omega
    rw [List.take_length] at ha
    rw [ha]
    simp only [simB, zbo, Nat.reduceBEq, own0, ↓reduceIte, Nat.reduceEqDiff, Nat.reduceAdd, simL, zex, List.toList_toArray, len9, ix9, zey, zez, zfa, zfb, zfc, e0, e1, e2, q1]
    exact finish_b _ _ _ _ _ _ _ ((by simp only [zfk, ↓reduceIte, Nat.reduceEqDiff]; try rfl)) rfl
  · have q1 : (i : Int) < (s.length : Int) := by omega
    have q2 : (0 : Int) ≤ (i : Int) ∧ (i : Int) < (s.length : Int) := by omega
    have f4 := i_add Try.prog 3 (i : Int) 1 (by omega) (by omega)
    have hs : s.take (i + 1) = s.take i ++ [s.getD i 0] := by
      rw [List.take_add_one, List.getD, List.getElem?_eq_getElem (by omega)]; rfl
    have ha1 : ∀ c, s.getD i 0 = c → okC c = true → (s.take (i + 1)).all okC = true := by
      intro c hc ho
      rw [hs, hc, List.all_append, ha]; simp [ho]
    have ha0 : ∀ c, s.getD i 0 = c → okC c = false → s.all okC = false := by
      intro c hc ho
      rw [List.all_eq_false]
      refine ⟨c, ?_, by rw [ho]; decide⟩
      rw [← hc, List.getD, List.getElem?_eq_getElem (by omega)]
      exact List.getElem_mem _
    generalize hc : s.getD i 0 = c at ha1 ha0
    replace ha1 := ha1 c rfl
    replace ha0 := ha0 c rfl
    by_cases c1 : (c.toNat : Int) < 33
    · rw [ha0 (by unfold okC; rw [decide_eq_false (by omega)]; rfl)]
      simp only [simB, zbo, Nat.reduceBEq, own0, ↓reduceIte, Nat.reduceEqDiff, Nat.reduceAdd, simL, zex, List.toList_toArray, len9, ix9, zey, zez, zfa, zfb, zfc, e0, e1, e2, q1, q2, and_self, Int.toNat_natCast, hc, c1]
      exact finish_b _ _ _ _ _ _ _ ((by simp only [zfk, ↓reduceIte, Nat.reduceEqDiff]; try rfl)) rfl
    by_cases c2 : (c.toNat : Int) > 126
    · rw [ha0 (by unfold okC; rw [decide_eq_false (p := c.toNat ≤ 126) (by omega)]; simp)]
      simp only [simB, zbo, Nat.reduceBEq, own0, ↓reduceIte, Nat.reduceEqDiff, Nat.reduceAdd, simL, zex, List.toList_toArray, len9, ix9, zey, zez, zfa, zfb, zfc, e0, e1, e2, q1, q2, and_self, Int.toNat_natCast, hc, c1, c2]
      exact finish_b _ _ _ _ _ _ _ ((by simp only [zfk, ↓reduceIte, Nat.reduceEqDiff]; try rfl)) rfl
    · have ha1 := ha1 (by unfold okC; rw [decide_eq_true (by omega), decide_eq_true (by omega)]; rfl)
      simp only [simB, zbo, Nat.reduceBEq, own0, ↓reduceIte, Nat.reduceEqDiff, Nat.reduceAdd, simL, zex, List.toList_toArray, len9, ix9, zey, zez, zfa, zfb, zfc, e0, e1, e2, q1, q2, and_self, Int.toNat_natCast, hc, c1, c2, f4]
      refine ih (i + 1) _ _ (by omega) rfl ⟨?_, ?_, ?_, by omega, ha1⟩
      · simp only [zfk, ↓reduceIte, Nat.reduceEqDiff, e0]
      · simp only [zfk, ↓reduceIte, Nat.reduceEqDiff, e1]
      · simp only [zfk, ↓reduceIte, Nat.reduceEqDiff]; rfl

def ownT : T → Bool
  | .mk k b _ l s n _ ks => decide (1 ≤ k ∧ k ≤ 6) && ((if k = 1 then chkN b l else zeroB b l) && (if k = 2 then nameB s else if k = 6 then decide (s.length ≤ 400) else s == []) && (if k = 4 then decide (ks.length = 2) else if k = 5 then decide (ks.length ≤ 40) else decide (ks.length = 0)) && decide (n = 0))
def limT : T → List Nat
  | .mk _ _ _ l _ _ _ _ => l
theorem natEq (x y : Nat) : ((x : Int) == (y : Int)) = decide (x = y) := by rw [Bool.eq_iff_iff, beq_iff_eq, decide_eq_true_eq]; omega
theorem natEq0 (x : Nat) : ((x : Int) == 0) = decide (x = 0) := natEq x 0
theorem natEq2 (x : Nat) : ((x : Int) == 2) = decide (x = 2) := natEq x 2
theorem intEq0 (x : Int) : (x == 0) = decide (x = 0) := by rw [Bool.eq_iff_iff, beq_iff_eq, decide_eq_true_eq]
theorem i_eqlV (x y : Int) : binA Try.prog .eql 3 (.int .i64 x) (.int .i64 y) = some (.bool (x == y)) := rfl
theorem i_leqV (x y : Int) : binA Try.prog .leq 3 (.int .i64 x) (.int .i64 y) = some (.bool (decide (x ≤ y))) := rfl
section
variable {P : Program} {cfg : Cfg} {call : FuncId → List Arg → Option Out} {n : Nat}
theorem den_assoc (a b c : Code) (K : Kont) (env : Env) (s : St) : den P cfg call n (.seq a (.seq b c)) K env s = den P cfg call n (.seq (.seq a b) c) K env s := by
  rw [zaa, zaa, zaa]
  congr 1
  funext e env s
  cases e <;> rfl
theorem seq_cut {a b : Code} {K : Kont} {env : Env} {s : St} {out : Option Out} (I : Env → St → Prop) (h2 : ∀ env s, I env s → den P cfg call n b K env s = out)
    (h1 : ∀ K' : Kont, (∀ env s, I env s → K' .normal env s = out) → (∀ env s, K' .ret env s = K .ret env s) → (∀ i env s, K' (.exit i) env s = K (.exit i) env s) → den P cfg call n a K' env s = out) : den P cfg call n (.seq a b) K env s = out :=
  h1 (seqK P cfg call n b K) (fun env s h => h2 env s h) (fun _ _ => rfl) (fun _ _ _ => rfl)
end
set_option maxHeartbeats 8000000 in
theorem own_eq (n d : Nat) (hn : 100 ≤ n) (k : Int) (b : Bool) (lg : Gk) (l : List Nat) (hl : Limbs l) (s : List UInt8) (m : Int) (kg : Gk) (ks : List T) :
    evalFn Try.prog cfg0 n (d+2) 80 [.tree (encT (.mk k b lg l s m kg ks))] = some (.tree (.bool (ownT (.mk k b lg l s m kg ks))), [[]]) := by
  rw [evalFn_go _ Try.func80 (by unfold Try.f80; rfl) (by unfold Try.f80; decide) (Nat.le_of_ble_eq_true (by unfold Try.f80; rfl)) (by kernel_rfl)]
  have c1 := callQ_trees (f := 89) (vs := [.agg [.bool b, encL lg l]]) rfl (zeroN_eq n d b lg l)
  have c2 := fun D st => callA_trees (cfg := cfg0) (d := D) (s := st) (f := 89) (vs := [.agg [.bool b, encL lg l]]) rfl (zeroN_eq n d b lg l)
  have c3 := fun D st => callA_trees (cfg := cfg0) (d := D) (s := st) (f := 69) (vs := [.agg [.bool b, encL lg l]]) rfl (check_eq n d b lg l hl)
  have c4 := fun D st => callA_trees (cfg := cfg0) (d := D) (s := st) (f := 90) (vs := [.str s]) rfl (name_eq n d hn s)
  by_cases hk : 1 ≤ k ∧ k ≤ 6
  · rw [den_assoc, den_assoc]
    refine seq_cut (fun env st => env 1 = .ptr 1 1 0 ∧ st 1 = ⟨1, .buf (cellsT (.mk k b lg l s m kg ks))⟩ ∧ env 3 = .bool (if k = 1 then chkN b l else zeroB b l) ∧ env 4 = .bool (if k = 2 then nameB s else if k = 6 then decide (s.length ≤ 400) else s == []) ∧ env 5 = .bool (if k = 4 then decide (ks.length = 2) else if k = 5 then decide (ks.length ≤ 40) else decide (ks.length = 0))) ?_ ?_
    · intro env st ⟨e1, j1, e3, e4, e5⟩
      have hr : ownT (.mk k b lg l s m kg ks) = ((if k = 1 then chkN b l else zeroB b l) && (if k = 2 then nameB s else if k = 6 then decide (s.length ≤ 400) else s == []) && (if k = 4 then decide (ks.length = 2) else if k = 5 then decide (ks.length ≤ 40) else decide (ks.length = 0)) && decide (m = 0)) := by
        simp only [ownT]; rw [decide_eq_true hk, Bool.true_and]
      rw [hr]
      generalize (if k = 1 then chkN b l else zeroB b l) = x3 at *
      generalize (if k = 2 then nameB s else if k = 6 then decide (s.length ≤ 400) else s == []) = x4 at *
      generalize (if k = 4 then decide (ks.length = 2) else if k = 5 then decide (ks.length ≤ 40) else decide (ks.length = 0)) = x5 at *
      cases x3 <;> cases x4 <;> cases x5 <;>
      · simp only [simB, zbo, Nat.reduceBEq, own0, ↓reduceIte, Nat.reduceEqDiff, Nat.reduceAdd, simA, simL, zex, List.toList_toArray, len9, ix9, zey, zez, zfa, zfb, zfc, simN, Nat.zero_add, e1, j1, e3, e4, e5, cellsT, faT_0, faT_1, faT_2, faT_3, faT_4, ldT_0, ldT_1, ldT_2, ldT_3, ldT_4, i_eqlV, intEq0]
        exact finish_b _ _ _ _ _ _ _ ((by simp only [zfk, ↓reduceIte, Nat.reduceEqDiff]; try rfl)) rfl
    · intro K hN hR hE
      have hc : k = 1 ∨ k = 2 ∨ k = 3 ∨ k = 4 ∨ k = 5 ∨ k = 6 := by omega
      rcases hc with rfl | rfl | rfl | rfl | rfl | rfl <;>
      · simp only [simB, zbo, Nat.reduceBEq, own0, ↓reduceIte, Nat.reduceEqDiff, Nat.reduceAdd, simA, simL, zex, List.toList_toArray, len9, ix9, zey, zez, zfa, zfb, zfc, simN, Nat.zero_add, encT, cellsT, faT_0, faT_1, faT_2, faT_3, faT_4, ldT_0, ldT_1, ldT_2, ldT_3, ldT_4, c1, c2, c3, c4, lenTk, i_eqlV, i_leqV, Int.reduceBEq]
        refine hN _ _ ⟨(by simp only [zfk, ↓reduceIte, Nat.reduceEqDiff]; try rfl), (by simp only [zfk, ↓reduceIte, Nat.reduceEqDiff]; try rfl), ?_, ?_, ?_⟩
        · first | (simp only [zfk, ↓reduceIte, Nat.reduceEqDiff, Int.reduceEq]; done) | (simp only [zfk, ↓reduceIte, Nat.reduceEqDiff, Int.reduceEq]; rfl)
        · first | (simp only [zfk, ↓reduceIte, Nat.reduceEqDiff, Int.reduceEq, natEq0, natEq2]; done) | (simp only [zfk, ↓reduceIte, Nat.reduceEqDiff, Int.reduceEq, natEq0, natEq2]; rfl) | (simp [zfk]; done) | (simp [zfk]; omega)
        · first | (simp only [zfk, ↓reduceIte, Nat.reduceEqDiff, Int.reduceEq, natEq0, natEq2]; done) | (simp only [zfk, ↓reduceIte, Nat.reduceEqDiff, Int.reduceEq, natEq0, natEq2]; rfl) | (simp [zfk, natEq0, natEq2]; done) | (simp [zfk, natEq0, natEq2]; omega)
  · have hr : ownT (.mk k b lg l s m kg ks) = false := by simp only [ownT]; rw [decide_eq_false hk, Bool.false_and]
    rw [hr]
    have n1 : (k == 1) = false := by rw [beq_eq_false_iff_ne]; omega
    have n2 : (k == 2) = false := by rw [beq_eq_false_iff_ne]; omega
    have n3 : (k == 3) = false := by rw [beq_eq_false_iff_ne]; omega
    have n4 : (k == 4) = false := by rw [beq_eq_false_iff_ne]; omega
    have n5 : (k == 5) = false := by rw [beq_eq_false_iff_ne]; omega
    have n6 : (k == 6) = false := by rw [beq_eq_false_iff_ne]; omega
    simp only [simB, zbo, Nat.reduceBEq, own0, ↓reduceIte, Nat.reduceEqDiff, Nat.reduceAdd, simA, simL, zex, List.toList_toArray, len9, ix9, zey, zez, zfa, zfb, zfc, simN, Nat.zero_add, encT, cellsT, faT_0, faT_1, faT_2, faT_3, faT_4, ldT_0, ldT_1, ldT_2, ldT_3, ldT_4, c1, c2, c3, c4, lenTk, i_eqlV, n1, n2, n3, n4, n5, n6]
    exact finish_b _ _ _ _ _ _ _ ((by simp only [zfk, ↓reduceIte, Nat.reduceEqDiff]; try rfl)) rfl
end Go.Ab

/- term.check. Conditions: limbs in range; so many nodes at most. -/
namespace Go.Ab
open Go.Proofs
set_option maxRecDepth 100000
set_option linter.unusedSimpArgs false

mutual
def chkT : T → Int → Int → Bool × Int
  | .mk k b lg l s n kg ks, deep, left =>
    if left - 1 < 0 ∨ deep > 60 ∨ ownT (.mk k b lg l s n kg ks) = false then (false, left - 1)
    else if k = 4 then chkC ks deep (left - 1) else chkK ks (deep + 1) (left - 1)
def chkC : List T → Int → Int → Bool × Int
  | [], _, left => (false, left)
  | h :: r, deep, left => if (chkT h (deep + 1) left).1 = true then chkL r deep (chkT h (deep + 1) left).2 else chkT h (deep + 1) left
def chkL : List T → Int → Int → Bool × Int
  | [], _, left => (false, left)
  | t :: _, deep, left => chkT t deep left
def chkK : List T → Int → Int → Bool × Int
  | [], _, left => (true, left)
  | t :: r, deep, left => if (chkT t deep left).1 = true then chkK r deep (chkT t deep left).2 else chkT t deep left
end
theorem own_kids {k : Int} {b : Bool} {lg : Gk} {l : List Nat} {s : List UInt8} {n : Int} {kg : Gk} {ks : List T} (h : ownT (.mk k b lg l s n kg ks) = true) (hk : k = 4) : ∃ x y, ks = [x, y] := by
  subst hk
  simp only [ownT, ↓reduceIte, Bool.and_eq_true, decide_eq_true_eq] at h
  match ks, h.2.1.2 with
  | [x, y], _ => exact ⟨x, y, rfl⟩
mutual
theorem chkT_nod : ∀ (t : T) (deep left : Int), (chkT t deep left).1 = true → (chkT t deep left).2 = left - nodT t ∧ 0 ≤ (chkT t deep left).2
  | .mk k b lg l s n kg ks, deep, left => by
    simp only [chkT, nodT]
    split
    · intro h; cases h
    · rename_i h
      split
      · rename_i hk
        have ho : ownT (.mk k b lg l s n kg ks) = true := by
          cases h0 : ownT (.mk k b lg l s n kg ks)
          · exact absurd (.inr (.inr h0)) h
          · rfl
        obtain ⟨x, y, rfl⟩ := own_kids ho hk
        intro hc
        have := chkC_nod [x, y] deep (left - 1) rfl hc
        omega
      · intro hc
        have := chkK_nod ks (deep + 1) (left - 1) (by omega) hc
        omega
theorem chkC_nod : ∀ (ks : List T) (deep left : Int), ks.length = 2 → (chkC ks deep left).1 = true → (chkC ks deep left).2 = left - nodK ks ∧ 0 ≤ (chkC ks deep left).2
  | [], deep, left, _ => by intro h; cases h
  | h :: r, deep, left, hl => by
    simp only [chkC, nodK]
    split
    · rename_i h1
      have a := chkT_nod h (deep + 1) left h1
      intro h2
      have b := chkL_nod r deep _ (by simpa using hl) h2
      omega
    · rename_i h1; intro h2; exact absurd h2 h1
theorem chkL_nod : ∀ (ks : List T) (deep left : Int), ks.length = 1 → (chkL ks deep left).1 = true → (chkL ks deep left).2 = left - nodK ks ∧ 0 ≤ (chkL ks deep left).2
  | [], deep, left, _ => by intro h; cases h
  | t :: r, deep, left, hl => by
    have hr : r = [] := by
      cases r with
      | nil => rfl
      | cons _ _ => simp at hl
    subst hr
    simp only [chkL, nodK, Nat.add_zero]
    exact chkT_nod t deep left
theorem chkK_nod : ∀ (ks : List T) (deep left : Int), 0 ≤ left → (chkK ks deep left).1 = true → (chkK ks deep left).2 = left - nodK ks ∧ 0 ≤ (chkK ks deep left).2
  | [], deep, left, h0 => by intro _; simp only [chkK, nodK]; omega
  | t :: r, deep, left, h0 => by
    simp only [chkK, nodK]
    split
    · rename_i h1
      have a := chkT_nod t deep left h1
      intro h2
      have b := chkK_nod r deep _ a.2 h2
      omega
    · rename_i h1; intro h2; exact absurd h2 h1
end
end Go.Ab

/- term.check, walked. Conditions: limbs in range; so many nodes at most. -/
namespace Go.Ab
open Go.Proofs
set_option maxRecDepth 100000
set_option linter.unusedSimpArgs false

theorem ldI1 (t k : Nat) (a : AV) : ldE Try.prog 3 ⟨t, .buf [a]⟩ k 0 = if t = k then some a else none := by
  rw [ldE_buf, cellsE_buf]
  by_cases h : t = k
  · simp [h, partA, shTi]
  · simp [h]
def stI (e : Ent) (p k : Nat) (s : St) (v : AV) : Option St :=
  match e with | ⟨t', .buf xs⟩ => if t' = k then (if 0 < xs.length then some (upd s p ⟨t', .buf (xs.set 0 v)⟩) else none) else none | _ => none
theorem st_I (s : St) (p k : Nat) (kd : IntKind) (z : Int) : storeA Try.prog 3 s (.ptr p k 0) (.int kd z) = stI (s p) p k s (.int kd z) := by
  simp only [storeA, settle, Option.bind_some, stI]
  cases h : s p with
  | mk t c => cases c <;> simp [eszTi, cellOk]
theorem stI_buf (t k p : Nat) (s : St) (a v : AV) : stI ⟨t, .buf [a]⟩ p k s v = if t = k then some (upd s p ⟨t, .buf [v]⟩) else none := by
  simp [stI]
theorem sl_K1 (s : St) (h u : T) (g : Grip) : sliceA Try.prog 26 s (.sl (cellsK [h, u]) 2 g) none (some (.int .i64 1)) none = some (.sl (cellsK [h]) 1 .loose) := by
  have e : (cellsK [h, u]).length = 2 * 6 := cellsK_len [h, u]
  have e2 : (cellsK [h, u]).take (1 * 6) = cellsK [h] := cellsK_take [h, u] 1
  simp only [sliceA, tkTk, boundA, eszT, Option.isSome_none, Bool.false_eq_true, false_and, if_false, Option.bind_some]
  rw [if_pos (by decide)]
  simp only [Option.bind_some, e, ↓reduceIte]
  have e3 : (Int.toNat 1) * 6 = 1 * 6 := rfl
  rw [e3, e2]
  simp
theorem stT_len (e : Ent) (p k : Nat) (s : St) (ys : List AV) (t : Nat) (xs : List AV) (he : e = ⟨t, .buf xs⟩) (h1 : xs.length = 6) (h2 : ys.length = 6) : stT e p k s ys = if t = k then some (upd s p ⟨t, .buf ys⟩) else none := by
  subst he
  have h3 : splice xs 0 ys = ys := by
    simp only [splice, List.take_zero, List.nil_append, Nat.zero_add, h2]
    rw [List.drop_eq_nil_of_le (by omega), List.append_nil]
  simp only [stT, h1, h2, Nat.le_refl, ↓reduceIte, h3]
theorem st_Tt (s : St) (p k : Nat) (u : T) : storeA Try.prog 28 s (.ptr p k 0) (.agg (cellsT u)) = stT (s p) p k s (cellsT u) := by
  obtain ⟨a, b, c, d, e, f, g, h⟩ := u
  simp only [cellsT]
  exact st_T s p k _ _ _ _ _ _
theorem stT_6 (t k p : Nat) (s : St) (a b c d e f : AV) (u : T) : stT ⟨t, .buf [a, b, c, d, e, f]⟩ p k s (cellsT u) = if t = k then some (upd s p ⟨t, .buf (cellsT u)⟩) else none :=
  stT_len _ _ _ _ _ _ _ rfl rfl (cellsT_len u)
theorem ldT_u (t k : Nat) (u : T) : ldE Try.prog 28 ⟨t, .buf (cellsT u)⟩ k 0 = if t = k then some (.agg (cellsT u)) else none := by
  obtain ⟨a, b, c, d, e, f, g, h⟩ := u
  simp only [cellsT]
  exact ldT_a _ _ _ _ _ _ _ _
theorem callA_tip {cfg : Cfg} {call : FuncId → List Arg → Option Out} {D : Nat} {f : FuncId} {xs ys o : List AV} {kd : IntKind} {z : Int} {r : AV} (hc : call f [.tree (.agg ys), .tree (.int kd z), .ptr xs 0] = some (.tree r, [[], [], o])) (s : St) (p t : Nat) (hs : s p = ⟨t, .buf xs⟩) :
    callA cfg call D s f [.agg ys, .int kd z, .ptr p t 0] = some (r, upd s p ⟨t, .buf o⟩) := by
  simp [callA, argsA, argA, hs, givesL, givesOf, lendsL, lendsOf, hc, backA, resA]
theorem outs_3 (a b : AV) (xs ys : List AV) (s : St) (h : s 2 = ⟨0, .buf ys⟩) : outsA s 0 [.tree a, .tree b, .ptr xs 0] = some [[], [], ys] := by
  simp only [outsA, h, Option.bind_some, Option.map_some]
set_option maxHeartbeats 16000000 in
theorem tcheck_eq (n : Nat) (hn : 100 ≤ n) (hn2 : n ≤ 1000000) : ∀ (d : Nat) (t0 : T) (deep l0 : Int), htT t0 ≤ d → nodT t0 < n → wfT t0 → 0 ≤ deep → deep ≤ 1000 → 0 ≤ l0 → l0 ≤ 1000000 →
    evalFn Try.prog cfg0 n (d+3) 45 [.tree (encT t0), .tree (.int .i64 deep), .ptr [.int .i64 l0] 0] = some (.tree (.bool (chkT t0 deep l0).1), [[], [], [.int .i64 (chkT t0 deep l0).2]])
  | d, t0, deep, l0, hd, hnd, hw, h1, h2, h3, h4 => by
    have IH : ∀ (t : T) (deep l0 : Int), htT t + 1 ≤ d → nodT t < n → wfT t → 0 ≤ deep → deep ≤ 1000 → 0 ≤ l0 → l0 ≤ 1000000 →
      evalFn Try.prog cfg0 n (d+2) 45 [.tree (encT t), .tree (.int .i64 deep), .ptr [.int .i64 l0] 0] = some (.tree (.bool (chkT t deep l0).1), [[], [], [.int .i64 (chkT t deep l0).2]]) := by
      intro t deep l0 g1 g2 g3 g4 g5 g6 g7
      match d, g1 with
      | d + 1, g1 => exact tcheck_eq n hn hn2 d t deep l0 (by omega) g2 g3 g4 g5 g6 g7
    rw [evalFn_go _ Try.func45 (by unfold Try.f45; rfl) (by unfold Try.f45; decide) (Nat.le_of_ble_eq_true (by unfold Try.f45; rfl)) (by kernel_rfl)]
    simp only [simB, zbo, Nat.reduceBEq, own0, ↓reduceIte, Nat.reduceEqDiff, Nat.reduceAdd, simA, simN, Nat.zero_add, encT, den_loop]
    refine loop_ends (X := T × Int) (fun x env s => env 1 = .int .i64 deep ∧ env 2 = .ptr 2 0 0 ∧ env 3 = .ptr 3 1 0 ∧ s 3 = ⟨1, .buf (cellsT x.1)⟩ ∧ s 2 = ⟨0, .buf [.int .i64 x.2]⟩ ∧ htT x.1 ≤ d ∧ nodT x.1 < n ∧ wfT x.1 ∧ 0 ≤ x.2 ∧ x.2 ≤ 1000000) (fun x => nodT x.1) (fun x => (.tree (.bool (chkT x.1 deep x.2).1), [[], [], [.int .i64 (chkT x.1 deep x.2).2]])) ?_ n (t0, l0) _ _ hnd ⟨(by simp only [zfk, ↓reduceIte, Nat.reduceEqDiff]; try rfl), (by simp only [zfk, ↓reduceIte, Nat.reduceEqDiff]; try rfl), (by simp only [zfk, ↓reduceIte, Nat.reduceEqDiff]; try rfl), (by simp only [zfk, ↓reduceIte, Nat.reduceEqDiff]; try rfl), (by simp only [zfk, ↓reduceIte, Nat.reduceEqDiff]; try rfl), hd, hnd, hw, h3, h4⟩
    rintro rd ⟨t, left⟩ hrd ih env st ⟨e1, e2, e3, j3, j2, hht, hnod, hwf, hl0, hl1⟩
    simp only at j3 j2 hht hnod hwf hl0 hl1
    obtain ⟨k, b, lg, l, s, m, kg, ks⟩ := t
    have hL : Limbs l := by simp only [wfT] at hwf; exact hwf.1
    have f0 := i_sub Try.prog 3 left 1 (by omega) (by omega)
    have co := fun D st => callA_trees (cfg := cfg0) (d := D) (s := st) (f := 80) (vs := [encT (.mk k b lg l s m kg ks)]) rfl (own_eq n d hn k b lg l hL s m kg ks)
    simp only [encT, cellsT] at co
    simp only [cellsT] at j3
    by_cases g1 : left - 1 < 0
    · have hr : chkT (.mk k b lg l s m kg ks) deep left = (false, left - 1) := by simp only [chkT]; rw [if_pos (.inl g1)]
      simp only [hr]
      simp only [simB, zbo, Nat.reduceBEq, own0, ↓reduceIte, Nat.reduceEqDiff, Nat.reduceAdd, simL, simN, Nat.zero_add, opA_nilc, nilE_ptr, cellsE_buf, Option.isSome_some, e1, e2, e3, j2, j3, ldI1, st_I, stI_buf, f0, g1]
      exact finish_b _ _ _ _ _ _ _ (by simp only [zfk, ↓reduceIte, Nat.reduceEqDiff]; try rfl) (outs_3 _ _ _ _ _ (by simp only [zfk, ↓reduceIte, Nat.reduceEqDiff]; try rfl))
    by_cases g2 : deep > 60
    · have hr : chkT (.mk k b lg l s m kg ks) deep left = (false, left - 1) := by simp only [chkT]; rw [if_pos (.inr (.inl g2))]
      simp only [hr]
      simp only [simB, zbo, Nat.reduceBEq, own0, ↓reduceIte, Nat.reduceEqDiff, Nat.reduceAdd, simL, simN, Nat.zero_add, opA_nilc, nilE_ptr, cellsE_buf, Option.isSome_some, e1, e2, e3, j2, j3, ldI1, st_I, stI_buf, f0, g1, g2]
      exact finish_b _ _ _ _ _ _ _ (by simp only [zfk, ↓reduceIte, Nat.reduceEqDiff]; try rfl) (outs_3 _ _ _ _ _ (by simp only [zfk, ↓reduceIte, Nat.reduceEqDiff]; try rfl))
    cases g3 : ownT (.mk k b lg l s m kg ks) with
    | false =>
      have hr : chkT (.mk k b lg l s m kg ks) deep left = (false, left - 1) := by simp only [chkT]; rw [if_pos (.inr (.inr g3))]
      rw [g3] at co
      simp only [hr]
      simp only [simB, zbo, Nat.reduceBEq, own0, ↓reduceIte, Nat.reduceEqDiff, Nat.reduceAdd, simL, simN, Nat.zero_add, opA_nilc, nilE_ptr, cellsE_buf, Option.isSome_some, e1, e2, e3, j2, j3, ldI1, st_I, stI_buf, f0, g1, g2, ldT_a, co, unA_not', Bool.not_false]
      exact finish_b _ _ _ _ _ _ _ (by simp only [zfk, ↓reduceIte, Nat.reduceEqDiff]; try rfl) (outs_3 _ _ _ _ _ (by simp only [zfk, ↓reduceIte, Nat.reduceEqDiff]; try rfl))
    | true =>
      rw [g3] at co
      have hg : ¬ (left - 1 < 0 ∨ deep > 60 ∨ ownT (.mk k b lg l s m kg ks) = false) := by rw [g3]; simp only [g1, g2, false_or]; decide
      have hgo : ∀ (K : Kont) (env : Env) (st : St) (i : Nat) (kid : T) (r : List T) (kl : List T), kl.drop i = kid :: r → i < kl.length := by
        intro K env st i kid r kl hd
        have := congrArg List.length hd
        simp only [List.length_drop, List.length_cons] at this
        omega
      by_cases hk : k = 4
      · obtain ⟨x, y, rfl⟩ := own_kids g3 hk
        subst hk
        have hwk : wfK [x, y] := by simp only [wfT] at hwf; exact hwf.2
        simp only [wfK, and_true] at hwk
        have hhk : max (htT x) (htT y) + 1 ≤ d := by simp only [htT, htK] at hht; omega
        have hnk : nodT x + nodT y + 1 < n := by simp only [nodT, nodK] at hnod; omega
        have hnk2 : nodT (.mk 4 b lg l s m kg [x, y]) = nodT x + nodT y + 1 := by simp only [nodT, nodK]; omega
        have hr : chkT (.mk 4 b lg l s m kg [x, y]) deep left = if (chkT x (deep + 1) (left - 1)).1 = true then chkT y deep (chkT x (deep + 1) (left - 1)).2 else chkT x (deep + 1) (left - 1) := by
          simp only [chkT]; rw [if_neg hg]; simp only [↓reduceIte, chkC, chkL]
        have hk' : ((4 : Int) == 4) = true := rfl
        simp only [List.length_cons, List.length_nil, Nat.zero_add, Nat.reduceAdd] at co
        have hk2 : ((4 : Int) != 4) = false := rfl
        have s1 := fun st => sl_K1 st x y (gr kg)
        have w1 : ∀ st, lenA Try.prog 26 st (.sl (cellsK [x]) 1 .loose) = some (.int .i64 1) := fun st => lenTk st _ 1 _
        simp only [simB, zbo, Nat.reduceBEq, own0, ↓reduceIte, Nat.reduceEqDiff, Nat.reduceAdd, simL, simN, Nat.zero_add, opA_nilc, nilE_ptr, cellsE_buf, Option.isSome_some, e1, e2, e3, j2, j3, ldI1, st_I, stI_buf, f0, g1, g2, ldT_a, co, unA_not', Bool.not_true, faT_0, faT_4, ldT_0, ldT_4, i_eqlV, hk', s1, w1, lenTk, den_loop, List.length_cons, List.length_nil, Nat.zero_add, Nat.reduceAdd]
        refine loop_ends (X := Bool) (fun z env s' => env 1 = .int .i64 deep ∧ env 2 = .ptr 2 0 0 ∧ env 3 = .ptr 3 1 0 ∧ env 35 = .sl (cellsK [x]) 1 .loose ∧ env 36 = .int .i64 1 ∧ env 37 = .int .i64 (if z = true then 1 else 0) ∧ s' 3 = ⟨1, .buf (cellsT (.mk 4 b lg l s m kg [x, y]))⟩ ∧ s' 2 = ⟨0, .buf [.int .i64 (if z = true then (chkT x (deep + 1) (left - 1)).2 else left - 1)]⟩ ∧ (z = true → (chkT x (deep + 1) (left - 1)).1 = true)) (fun z => if z = true then 0 else 1) (fun _ => (.tree (.bool (chkT (.mk 4 b lg l s m kg [x, y]) deep left).1), [[], [], [.int .i64 (chkT (.mk 4 b lg l s m kg [x, y]) deep left).2]])) ?_ n false _ _ (by simp only [Bool.false_eq_true, ↓reduceIte]; omega) ⟨(by simp only [zfk, ↓reduceIte, Nat.reduceEqDiff, e1]; try rfl), (by simp only [zfk, ↓reduceIte, Nat.reduceEqDiff, e2]; try rfl), (by simp only [zfk, ↓reduceIte, Nat.reduceEqDiff, e3]; try rfl), (by simp only [zfk, ↓reduceIte, Nat.reduceEqDiff]; try rfl), (by simp only [zfk, ↓reduceIte, Nat.reduceEqDiff]; try rfl), (by simp only [zfk, ↓reduceIte, Nat.reduceEqDiff]; try rfl), by simp only [cellsT]; exact (by simp only [zfk, ↓reduceIte, Nat.reduceEqDiff, j3]; try rfl), (by simp only [zfk, ↓reduceIte, Nat.reduceEqDiff]; try rfl), by intro h; cases h⟩
        rintro rr (_ | _) hrr ih2 env st ⟨e1, e2, e3, e35, e36, e37, j3, j2, hz⟩
        · simp only [Bool.false_eq_true, ↓reduceIte] at e37 j2
          have q1 : (0 : Int) < 1 := by decide
          have f5 := i_add Try.prog 3 0 1 (by omega) (by omega)
          have f6 := i_add Try.prog 3 deep 1 (by omega) (by omega)
          have cc := fun D => callA_tip (cfg := cfg0) (D := D) (IH x (deep + 1) (left - 1) (by omega) (by omega) hwk.1 (by omega) (by omega) (by omega) (by omega))
          have ia : ∀ st, indexAddrA Try.prog 26 st (.sl (cellsK [x]) 1 .loose) (.int .i64 0) = some (.rptr (cellsK [x])) := fun st => ia_K st [x] .loose 0 (Nat.zero_lt_succ _)
          have ld := fun st => ld_K st x []
          simp only [encT] at ld
          cases hx : (chkT x (deep + 1) (left - 1)).1 with
          | false =>
            rw [hx] at hr cc
            simp only [Bool.false_eq_true, ↓reduceIte] at hr
            rw [hr, hx]
            simp only [simB, zbo, Nat.reduceBEq, own0, ↓reduceIte, Nat.reduceEqDiff, Nat.reduceAdd, simL, simN, Nat.zero_add, opA_nilc, nilE_ptr, cellsE_buf, Option.isSome_some, e1, e2, e3, e35, e36, e37, j2, j3, q1, ia, ld, zeroT, st_Tt, stT_6, ldT_u, f6, cc, unA_not', Bool.not_false]
            exact finish_b _ _ _ _ _ _ _ (by simp only [zfk, ↓reduceIte, Nat.reduceEqDiff]; try rfl) (outs_3 _ _ _ _ _ (by simp only [zfk, ↓reduceIte, Nat.reduceEqDiff]; try rfl))
          | true =>
            rw [hx] at cc
            simp only [simB, zbo, Nat.reduceBEq, own0, ↓reduceIte, Nat.reduceEqDiff, Nat.reduceAdd, simL, simN, Nat.zero_add, opA_nilc, nilE_ptr, cellsE_buf, Option.isSome_some, e1, e2, e3, e35, e36, e37, j2, j3, q1, ia, ld, zeroT, st_Tt, stT_6, ldT_u, f6, cc, unA_not', Bool.not_true, f5]
            exact ih2 true _ _ (by decide) rfl ⟨(by simp only [zfk, ↓reduceIte, Nat.reduceEqDiff, e1]; try rfl), (by simp only [zfk, ↓reduceIte, Nat.reduceEqDiff, e2]; try rfl), (by simp only [zfk, ↓reduceIte, Nat.reduceEqDiff, e3]; try rfl), (by simp only [zfk, ↓reduceIte, Nat.reduceEqDiff, e35]; try rfl), (by simp only [zfk, ↓reduceIte, Nat.reduceEqDiff, e36]; try rfl), (by simp only [zfk, ↓reduceIte, Nat.reduceEqDiff]; try rfl), (by simp only [zfk, ↓reduceIte, Nat.reduceEqDiff, j3]; try rfl), (by simp only [zfk, ↓reduceIte, Nat.reduceEqDiff]; try rfl), fun _ => hx⟩
        · simp only [↓reduceIte] at e37 j2
          have hx := hz rfl
          have hcn := chkT_nod x (deep + 1) (left - 1) hx
          rw [hx] at hr
          simp only [↓reduceIte] at hr
          have q1 : ¬ (1 : Int) < 1 := by decide
          have ia : ∀ st, indexAddrA Try.prog 26 st (.sl (cellsK [x, y]) 2 (gr kg)) (.int .i64 1) = some (.rptr (cellsK [y])) := fun st => ia_K st [x, y] (gr kg) 1 (Nat.lt_succ_self _)
          have ld := fun st => ld_K st y []
          simp only [encT] at ld
          simp only [cellsT] at j3
          simp only [simB, zbo, Nat.reduceBEq, own0, ↓reduceIte, Nat.reduceEqDiff, Nat.reduceAdd, simL, simN, Nat.zero_add, opA_nilc, nilE_ptr, cellsE_buf, Option.isSome_some, e1, e2, e3, e35, e36, e37, j2, j3, q1, faT_0, faT_4, ldT_0, ldT_4, hk2, ia, ld, st_Tt, stT_6, List.length_cons, List.length_nil, Nat.zero_add, Nat.reduceAdd]
          exact ih (y, (chkT x (deep + 1) (left - 1)).2) _ _ (by simp only; omega) (by simp only [hr]) ⟨(by simp only [zfk, ↓reduceIte, Nat.reduceEqDiff, e1]; try rfl), (by simp only [zfk, ↓reduceIte, Nat.reduceEqDiff, e2]; try rfl), (by simp only [zfk, ↓reduceIte, Nat.reduceEqDiff, e3]; try rfl), (by simp only [zfk, ↓reduceIte, Nat.reduceEqDiff]; try rfl), (by simp only [zfk, ↓reduceIte, Nat.reduceEqDiff, j2]; try rfl), by simp only; omega, by simp only; omega, hwk.2, by simp only; omega, by simp only; omega⟩
      · have hr : chkT (.mk k b lg l s m kg ks) deep left = chkK ks (deep + 1) (left - 1) := by simp only [chkT]; rw [if_neg hg, if_neg hk]
        have hk' : (k == 4) = false := by rw [beq_eq_false_iff_ne]; exact hk
        have hk2 : (k != 4) = true := by rw [bne, hk']; rfl
        have hwk : wfK ks := by simp only [wfT] at hwf; exact hwf.2
        have hhk : htK ks + 1 ≤ d := by simp only [htT] at hht; exact hht
        have hnk : nodK ks + 1 < n := by simp only [nodT] at hnod; exact hnod
        simp only [hr]
        generalize hR : chkK ks (deep + 1) (left - 1) = R
        simp only [simB, zbo, Nat.reduceBEq, own0, ↓reduceIte, Nat.reduceEqDiff, Nat.reduceAdd, simL, simN, Nat.zero_add, opA_nilc, nilE_ptr, cellsE_buf, Option.isSome_some, e1, e2, e3, j2, j3, ldI1, st_I, stI_buf, f0, g1, g2, ldT_a, co, unA_not', Bool.not_true, faT_0, faT_4, ldT_0, ldT_4, i_eqlV, hk', lenTk, den_loop]
        refine loop_ends (X := Nat × Int) (fun x env s' => env 1 = .int .i64 deep ∧ env 2 = .ptr 2 0 0 ∧ env 3 = .ptr 3 1 0 ∧ env 35 = .sl (cellsK ks) ks.length (gr kg) ∧ env 36 = .int .i64 (ks.length : Int) ∧ env 37 = .int .i64 (x.1 : Int) ∧ s' 3 = ⟨1, .buf (cellsT (.mk k b lg l s m kg ks))⟩ ∧ s' 2 = ⟨0, .buf [.int .i64 x.2]⟩ ∧ x.1 ≤ ks.length ∧ 0 ≤ x.2 ∧ x.2 ≤ 1000000 ∧ chkK (ks.drop x.1) (deep + 1) x.2 = R) (fun x => ks.length - x.1) (fun _ => (.tree (.bool R.1), [[], [], [.int .i64 R.2]])) ?_ n (0, left - 1) _ _ (by have := nodK_len ks; simp only; omega) ⟨(by simp only [zfk, ↓reduceIte, Nat.reduceEqDiff, e1]; try rfl), (by simp only [zfk, ↓reduceIte, Nat.reduceEqDiff, e2]; try rfl), (by simp only [zfk, ↓reduceIte, Nat.reduceEqDiff, e3]; try rfl), (by simp only [zfk, ↓reduceIte, Nat.reduceEqDiff]; try rfl), (by simp only [zfk, ↓reduceIte, Nat.reduceEqDiff]; try rfl), (by simp only [zfk, ↓reduceIte, Nat.reduceEqDiff]; try rfl), by simp only [cellsT]; exact (by simp only [zfk, ↓reduceIte, Nat.reduceEqDiff, j3]; try rfl), (by simp only [zfk, ↓reduceIte, Nat.reduceEqDiff]; try rfl), Nat.zero_le _, by simp only; omega, by simp only; omega, hR⟩
        rintro rr ⟨i, lf⟩ hrr ih2 env st ⟨e1, e2, e3, e35, e36, e37, j3, j2, hi, hlf0, hlf1, hc⟩
        simp only at e37 j2 hi hlf0 hlf1 hc
        cases hd : ks.drop i with
        | nil =>
          have hil : i = ks.length := by have := congrArg List.length hd; simp only [List.length_drop, List.length_nil] at this; omega
          rw [hd] at hc
          simp only [chkK] at hc
          subst hc
          have q1 : ¬ ((i : Int) < (ks.length : Int)) := by omega
          simp only [cellsT] at j3
          simp only [simB, zbo, Nat.reduceBEq, own0, ↓reduceIte, Nat.reduceEqDiff, Nat.reduceAdd, simL, simN, Nat.zero_add, opA_nilc, nilE_ptr, cellsE_buf, Option.isSome_some, e1, e2, e3, e35, e36, e37, j2, j3, q1, faT_0, faT_4, ldT_0, ldT_4, hk2]
          exact finish_b _ _ _ _ _ _ _ (by simp only [zfk, ↓reduceIte, Nat.reduceEqDiff]; try rfl) (outs_3 _ _ _ _ _ (by simp only [zfk, ↓reduceIte, Nat.reduceEqDiff, j2]; try rfl))
        | cons kid r =>
          have hil : i < ks.length := by have := congrArg List.length hd; simp only [List.length_drop, List.length_cons] at this; omega
          rw [hd] at hc
          simp only [chkK] at hc
          have q1 : (i : Int) < (ks.length : Int) := by omega
          have f5 := i_add Try.prog 3 (i : Int) 1 (by omega) (by have := nodK_len ks; omega)
          have f6 := i_add Try.prog 3 deep 1 (by omega) (by omega)
          have kh := kids_ht ks i kid r hd
          have kn := kids_nod ks i kid r hd
          have kw := kids_wf ks i kid r hd hwk
          have cc := fun D => callA_tip (cfg := cfg0) (D := D) (IH kid (deep + 1) lf (by omega) (by omega) kw (by omega) (by omega) hlf0 hlf1)
          have ia := fun st => ia_K st ks (gr kg) i hil
          rw [hd] at ia
          have ld := fun st => ld_K st kid r
          simp only [encT] at ld
          cases hx : (chkT kid (deep + 1) lf).1 with
          | false =>
            rw [hx] at hc cc
            simp only [Bool.false_eq_true, ↓reduceIte] at hc
            rw [← hc, hx]
            simp only [simB, zbo, Nat.reduceBEq, own0, ↓reduceIte, Nat.reduceEqDiff, Nat.reduceAdd, simL, simN, Nat.zero_add, opA_nilc, nilE_ptr, cellsE_buf, Option.isSome_some, e1, e2, e3, e35, e36, e37, j2, j3, q1, ia, ld, zeroT, st_Tt, stT_6, ldT_u, f6, cc, unA_not', Bool.not_false]
            exact finish_b _ _ _ _ _ _ _ (by simp only [zfk, ↓reduceIte, Nat.reduceEqDiff]; try rfl) (outs_3 _ _ _ _ _ (by simp only [zfk, ↓reduceIte, Nat.reduceEqDiff]; try rfl))
          | true =>
            rw [hx] at hc cc
            simp only [↓reduceIte] at hc
            have hcn := chkT_nod kid (deep + 1) lf hx
            simp only [simB, zbo, Nat.reduceBEq, own0, ↓reduceIte, Nat.reduceEqDiff, Nat.reduceAdd, simL, simN, Nat.zero_add, opA_nilc, nilE_ptr, cellsE_buf, Option.isSome_some, e1, e2, e3, e35, e36, e37, j2, j3, q1, ia, ld, zeroT, st_Tt, stT_6, ldT_u, f6, cc, unA_not', Bool.not_true, f5]
            refine ih2 (i + 1, (chkT kid (deep + 1) lf).2) _ _ (by simp only; omega) rfl ⟨?_, ?_, ?_, ?_, ?_, ?_, ?_, ?_, by simp only; omega, by simp only; omega, by simp only; omega, by simp only; rw [drop_next hd]; exact hc⟩
            · simp only [zfk, ↓reduceIte, Nat.reduceEqDiff, e1]
            · simp only [zfk, ↓reduceIte, Nat.reduceEqDiff, e2]
            · simp only [zfk, ↓reduceIte, Nat.reduceEqDiff, e3]
            · simp only [zfk, ↓reduceIte, Nat.reduceEqDiff, e35]
            · simp only [zfk, ↓reduceIte, Nat.reduceEqDiff, e36]
            · simp only [zfk, ↓reduceIte, Nat.reduceEqDiff]; rfl
            · simp only [zfk, ↓reduceIte, Nat.reduceEqDiff, j3]
            · simp only [zfk, ↓reduceIte, Nat.reduceEqDiff]
end Go.Ab

/- term.Check, term.Nodes. Conditions: limbs in range; so many nodes at most. -/
namespace Go.Ab
open Go.Proofs
set_option maxRecDepth 100000
set_option linter.unusedSimpArgs false

theorem zeroI : zeroOf Try.prog 3 = some [.int .i64 0] := by kernel_rfl
theorem tCheck_eq (n : Nat) (hn : 100 ≤ n) (hn2 : n ≤ 1000000) (d : Nat) (t : T) (hd : htT t ≤ d) (hnd : nodT t < n) (hw : wfT t) :
    evalFn Try.prog cfg0 n (d+4) 27 [.tree (encT t)] = some (.tree (.bool (chkT t 1 2000).1), [[]]) := by
  rw [evalFn_go _ Try.func27 (by unfold Try.f27; rfl) (by unfold Try.f27; decide) (Nat.le_of_ble_eq_true (by unfold Try.f27; rfl)) (by kernel_rfl)]
  have cc := fun D => callA_tip (cfg := cfg0) (D := D) (tcheck_eq n hn hn2 d t 1 2000 hd hnd hw (by decide) (by decide) (by decide) (by decide))
  simp only [simB, zbo, Nat.reduceBEq, own0, ↓reduceIte, Nat.reduceEqDiff, Nat.reduceAdd, simA, simN, Nat.zero_add, encT, zeroI, st_I, stI_buf, ldT_u, cc]
  exact finish_b _ _ _ _ _ _ _ (by simp only [zfk, ↓reduceIte, Nat.reduceEqDiff]; try rfl) rfl
end Go.Ab

/- What comparing terms needs. No conditions but limbs in range. -/
namespace Go.Ab
open Go.Proofs
set_option maxRecDepth 100000
set_option linter.unusedSimpArgs false

def three (a b : Int) : Int := if a < b then -1 else if b < a then 1 else 0
end Go.Ab

/- term.Cmp upon terms that may be. Conditions: terms that may be; so many nodes at most. -/
namespace Go.Ab
open Go.Proofs
set_option maxRecDepth 100000
set_option linter.unusedSimpArgs false

mutual
def goodT : T → Prop
  | .mk k b lg l s n kg ks => Limbs l ∧ ownT (.mk k b lg l s n kg ks) = true ∧ goodK ks
def goodK : List T → Prop
  | [] => True
  | t :: r => goodT t ∧ goodK r
end
def kindT : T → Int
  | .mk k _ _ _ _ _ _ _ => k
def kidsT : T → List T
  | .mk _ _ _ _ _ _ _ ks => ks
end Go.Ab

/- term.Cmp upon terms that may be, walked. Conditions: terms that may be; so many nodes at most. -/
namespace Go.Ab
open Go.Proofs
set_option maxRecDepth 100000
set_option linter.unusedSimpArgs false

end Go.Ab

/- term.Same, walked. Conditions: so many limbs, nodes at most. -/
namespace Go.Ab
open Go.Proofs
set_option maxRecDepth 100000
set_option linter.unusedSimpArgs false

end Go.Ab

/- The document's own check of a term by itself. Conditions: limbs in range; a text shorter than the rounds. -/
namespace Go.Ab
open Go.Proofs
set_option maxRecDepth 100000
set_option linter.unusedSimpArgs false

end Go.Ab

/- What the abstract run gives, it gives with more rounds and more depth too. No conditions. -/
namespace Go.Ab
section
variable {P : Program} {cfg : Cfg} {call call' : FuncId → List Arg → Option Out}
def Less (call call' : FuncId → List Arg → Option Out) : Prop := ∀ f as1 r, call f as1 = some r → call' f as1 = some r
theorem callA_mono (h : Less call call') {d : Nat} {s : St} {f : FuncId} {vs : List AV} {r : AV × St} (hc : callA cfg call d s f vs = some r) : callA cfg call' d s f vs = some r := by
  unfold callA at hc ⊢
  cases ha : argsA cfg f s 0 vs with
  | none => rw [ha] at hc; cases hc
  | some as1 =>
    rw [ha] at hc
    simp only [Option.bind_some] at hc ⊢
    split at hc
    · rename_i hg
      rw [if_pos hg]
      cases hcc : call f as1 with
      | none => rw [hcc] at hc; cases hc
      | some o => rw [hcc] at hc; rw [h _ _ _ hcc]; exact hc
    · cases hc
theorem callQ_mono (h : Less call call') {f : FuncId} {vs : List AV} {r : AV} (hc : callQ call f vs = some r) : callQ call' f vs = some r := by
  unfold callQ at hc ⊢
  split at hc
  · rename_i hg
    rw [if_pos hg]
    cases hcc : call f (vs.map .tree) with
    | none => rw [hcc] at hc; cases hc
    | some o => rw [hcc] at hc; rw [h _ _ _ hcc]; exact hc
  · rename_i hg
    rw [if_neg hg]
    split at hc
    · rename_i hg2
      rw [if_pos hg2]
      cases hcc : call f (vs.map fun v => .tree (loosen v)) with
      | none => rw [hcc] at hc; cases hc
      | some o => rw [hcc] at hc; rw [h _ _ _ hcc]; exact hc
    · cases hc
theorem opA_mono (h : Less call call') {q : Bool} {o : Oper} {d : Nat} {env : Env} {s : St} {r : AV × St} (hc : opA P cfg call q o d env s = some r) : opA P cfg call' q o d env s = some r := by
  obtain ⟨dst, op, ty, pos, af, g⟩ := o
  cases op with
  | call c =>
    obtain ⟨ce, as1, us⟩ := c
    cases ce with
    | value f =>
      simp only [opA] at hc ⊢
      split at hc
      · split at hc
        · rename_i hq
          rw [if_pos hq]
          split at hc
          · rename_i h0
            rw [if_pos h0]
            exact callA_mono h hc
          rename_i h0
          rw [if_neg h0]
          split at hc
          · rename_i h1
            rw [if_pos h1]
            split at hc
            · rename_i h2
              rw [if_pos h2]
              exact callA_mono h hc
            · cases hc
          · rename_i h1
            rw [if_neg h1]
            obtain ⟨v, hcc, hv⟩ := Option.map_eq_some_iff.mp hc
            rw [callQ_mono h hcc]
            exact congrArg some hv
        · rename_i hq
          rw [if_neg hq]
          exact callA_mono h hc
      · cases hc
    | builtin b => cases b <;> exact hc
    | _ => exact hc
  | _ => exact hc
theorem opsA_mono (h : Less call call') {q : Bool} {ops : Array Oper} : ∀ (l : List Oper) {env : Env} {s : St} {r : Env × St}, opsA P cfg call q ops l env s = some r → opsA P cfg call' q ops l env s = some r
  | [], env, s, r, hc => hc
  | o :: l, env, s, r, hc => by
    simp only [opsA] at hc ⊢
    cases hw : wantA ops o env with
    | none => rw [hw] at hc; cases hc
    | some b =>
      rw [hw] at hc
      cases b with
      | false => exact opsA_mono h l hc
      | true =>
        simp only at hc ⊢
        cases ho : opA P cfg call q o (o.dst.getD 0) env s with
        | none => rw [ho] at hc; cases hc
        | some x =>
          rw [ho] at hc
          rw [opA_mono h ho]
          simp only [Option.bind_some] at hc ⊢
          exact opsA_mono h l hc
def LessK (K K' : Kont) : Prop := ∀ e env s r, K e env s = some r → K' e env s = some r
theorem loopA_mono {b b' : Kont → Env → St → Option Out} (hb : ∀ K K', LessK K K' → ∀ env s r, b K env s = some r → b' K' env s = some r) {K K' : Kont} (hK : LessK K K') :
    ∀ (n n' : Nat), n ≤ n' → ∀ env s r, loopA b K n env s = some r → loopA b' K' n' env s = some r
  | 0, n', _, env, s, r, hc => by cases hc
  | n + 1, n', hn, env, s, r, hc => by
    obtain ⟨m, rfl⟩ : ∃ m, n' = m + 1 := ⟨n' - 1, by omega⟩
    simp only [loopA] at hc ⊢
    refine hb _ _ (fun e env s r h => ?_) _ _ _ hc
    cases e with
    | normal => exact loopA_mono hb hK n m (by omega) _ _ _ h
    | exit i => exact hK _ _ _ _ h
    | ret => exact hK _ _ _ _ h
theorem den_mono (h : Less call call') {n n' : Nat} (hn : n ≤ n') : ∀ (c : Code) {K K' : Kont}, LessK K K' → ∀ {env : Env} {s : St} {r : Out}, den P cfg call n c K env s = some r → den P cfg call' n' c K' env s = some r
  | .skip, K, K', hK, env, s, r, hc => hK _ _ _ _ hc
  | .label _, K, K', hK, env, s, r, hc => hK _ _ _ _ hc
  | .region _ ops draw, K, K', hK, env, s, r, hc => by
    simp only [den] at hc ⊢
    cases ho : opsA P cfg call draw ops ops.toList env (killI cfg.keep draw ops.toList s) with
    | none => rw [ho] at hc; cases hc
    | some x =>
      rw [ho] at hc
      rw [opsA_mono h _ ho]
      exact hK _ _ _ _ hc
  | .goto t, K, K', hK, env, s, r, hc => by
    simp only [den] at hc ⊢
    split at hc
    · rename_i hg
      rw [if_pos hg]
      exact hK _ _ _ _ hc
    · cases hc
  | .seq a b, K, K', hK, env, s, r, hc => by
    simp only [den] at hc ⊢
    refine den_mono h hn a (fun e env s r hh => ?_) hc
    cases e with
    | normal => exact den_mono h hn b hK hh
    | exit i => exact hK _ _ _ _ hh
    | ret => exact hK _ _ _ _ hh
  | .cond c a b, K, K', hK, env, s, r, hc => by
    simp only [den] at hc ⊢
    cases hv : ev env c <;> rw [hv] at hc <;> try cases hc
    rename_i x
    cases x with
    | true => exact den_mono h hn a hK hc
    | false => exact den_mono h hn b hK hc
  | .scope a, K, K', hK, env, s, r, hc => by
    simp only [den] at hc ⊢
    exact den_mono h hn a hK hc
  | .block id a, K, K', hK, env, s, r, hc => by
    simp only [den] at hc ⊢
    refine den_mono h hn a (fun e env s r hh => ?_) hc
    cases e with
    | normal => exact hK _ _ _ _ hh
    | exit i =>
      simp only at hh ⊢
      split at hh
      · rename_i hi; rw [if_pos hi]; exact hK _ _ _ _ hh
      · rename_i hi; rw [if_neg hi]; exact hK _ _ _ _ hh
    | ret => exact hK _ _ _ _ hh
  | .loop a, K, K', hK, env, s, r, hc => by
    simp only [den] at hc ⊢
    exact loopA_mono (b := den P cfg call n a) (b' := den P cfg call' n' a) (fun K K' hK env s r hh => den_mono h hn a hK hh) hK n n' hn _ _ _ hc
  | .exit id, K, K', hK, env, s, r, hc => hK _ _ _ _ hc
  | .ret, K, K', hK, env, s, r, hc => hK _ _ _ _ hc
  | .rangeFunc .., K, K', hK, env, s, r, hc => by cases hc
  | .refuse _, K, K', hK, env, s, r, hc => by cases hc
theorem evalFn_mono {n n' : Nat} (hn : n ≤ n') : ∀ (d d' : Nat), d ≤ d' → Less (evalFn P cfg n d) (evalFn P cfg n' d')
  | 0, _, _, f, as1, r, hc => by cases hc
  | d + 1, d', hd, f, as1, r, hc => by
    obtain ⟨m, rfl⟩ : ∃ m, d' = m + 1 := ⟨d' - 1, by omega⟩
    simp only [evalFn] at hc ⊢
    cases hp : cfg.prim f as1 with
    | some o => rw [hp] at hc; exact hc
    | none =>
      rw [hp] at hc
      simp only at hc ⊢
      cases hf : P.funcs[f]? with
      | none => rw [hf] at hc; cases hc
      | some fn =>
        rw [hf] at hc
        simp only at hc ⊢
        cases hb : fn.body with
        | none => rw [hb] at hc; cases hc
        | some c =>
          rw [hb] at hc
          simp only at hc ⊢
          split at hc
          · rename_i hg
            rw [if_pos hg]
            exact den_mono (evalFn_mono hn d m (by omega)) hn _ (fun _ _ _ _ hh => hh) hc
          · cases hc
end
end Go.Ab

/- The document's own check of terms, walked. Conditions: limbs in range; texts shorter than the rounds. -/
namespace Go.Ab
open Go.Proofs
set_option maxRecDepth 100000
set_option linter.unusedSimpArgs false

end Go.Ab

/- Terms out of a statement's reading. No conditions. -/
namespace Go.Ab
open Go.Proofs Go.RowKit Go.ChangeShapes Go.WideShapes Go.ChangeAt
set_option maxRecDepth 100000

section
variable {H : Type} {enc : TypeId × Value → H} {w : World} {base : Nat} {held : Bool}
end
end Go.Ab

/- Rows of terms in memory, as a statement's reading gives them. No conditions. -/
namespace Go.Ab
open Go.Proofs Go.RowKit
set_option maxRecDepth 100000
section
variable {H : Type} {enc : TypeId × Value → H} {w : World} {base : Nat} {held : Bool}
end
end Go.Ab

/- Lists of terms: term.List; rows of terms that grow. Conditions: lengths in range. -/
namespace Go.Ab
open Go.Proofs
set_option maxRecDepth 100000
set_option linter.unusedSimpArgs false

theorem callQ_loose {call : FuncId → List Arg → Option Out} {f : FuncId} {vs vs' : List AV} {v : AV} {os : List (List AV)} (h0 : vs.all isTree = false) (ht : vs.all isLent = true) (e : vs.map loosen = vs') (hc : call f (vs'.map Arg.tree) = some (.tree v, os)) : callQ call f vs = some v := by
  have e2 : (vs.map fun v => Arg.tree (loosen v)) = vs'.map .tree := by rw [← e]; simp
  simp only [callQ, h0, ht, Bool.false_eq_true, if_false, if_true, e2, hc, Option.bind_some]
def consT (h t : T) : T := .mk 4 false .n [] [] 0 .t [h, t]
def listT : List T → T → T
  | [], t => t
  | h :: r, t => consT h (listT r t)
theorem cells_cons (h t : T) : cellsT (consT h t) = consV (cellsT h) (cellsT t) := by
  simp only [consT, cellsT, cellsK, consV, List.append_nil, encL, encC, List.map_nil, List.length_nil, gr, List.length_cons, Nat.reduceAdd]
theorem chunk_K (ks : List T) (i : Nat) (t : T) (r : List T) (h : ks.drop i = t :: r) : chunk (cellsK ks) i = cellsT t := by
  rw [chunk, cellsK_drop, h]
  simp only [cellsK]
  rw [List.take_append_of_le_length (by rw [cellsT_len]; exact Nat.le_refl _), List.take_of_length_le (by rw [cellsT_len]; exact Nat.le_refl _)]
theorem listT_snoc (h : T) : ∀ (r : List T) (t : T), listT (r ++ [h]) t = listT r (consT h t)
  | [], t => rfl
  | a :: r, t => by simp only [List.cons_append, listT, listT_snoc h r t]
theorem lstN_K (ks : List T) : ∀ (n : Nat) (t : T), n ≤ ks.length → lstN (cellsK ks) n (cellsT t) = cellsT (listT (ks.take n) t)
  | 0, t, _ => rfl
  | n + 1, t, h => by
    have hd : ks.drop n = ks[n] :: ks.drop (n + 1) := List.drop_eq_getElem_cons h
    rw [lstN, chunk_K ks n _ _ hd, ← cells_cons, lstN_K ks n _ (by omega), List.take_succ_eq_append_getElem h, listT_snoc]
theorem tList_eq (n d : Nat) (ks : List T) (g : Grip) (t : T) (h : ks.length ≤ 9223372036854775807) : evalFn Try.prog cfg0 n (d+1) 84 [.tree (.sl (cellsK ks) ks.length g), .tree (encT t)] = some (.tree (encT (listT ks t)), [[], []]) := by
  have hp : prim0 84 [.tree (.sl (cellsK ks) ks.length g), .tree (encT t)] = some (.tree (encT (listT ks t)), [[], []]) := by
    unfold prim0
    rw [if_neg (by decide), if_pos (by decide)]
    have e := lstN_K ks ks.length t (Nat.le_refl _)
    rw [List.take_length] at e
    simp only [listP, encT]
    rw [if_pos ⟨cellsK_len ks, cellsT_len t, h⟩, e]
  have hc : cfg0.prim = prim0 := rfl
  rw [evalFn]
  simp only [hc, hp]
theorem by28 : decide (byOf Try.prog 28 ≤ 200) = true := by kernel_rfl
theorem zl28 : (zeroOf Try.prog 28).map List.length = some 6 := by kernel_rfl
def Ap (s : St) (d : Nat) (x : AV) (us : List T) : Prop := (us = [] ∧ x = .sl [] 0 .nil) ∨ (us ≠ [] ∧ ∃ t, x = .sl (cellsK us) us.length (.tok d t) ∧ s d = ⟨t, .tok 6⟩)
theorem Ap.push {s : St} {d : Nat} {x : AV} {us : List T} (h : Ap s d x us) (hl : us.length ≤ 1000000) (v : T) :
    ∃ x' s', appendA Try.prog #[26, 26] d s x (.sl (cellsT v) 1 .tight) = some (x', s') ∧ Ap s' d x' (us ++ [v]) ∧ ∀ q, q ≠ d → s' q = s q := by
  have hb := of_decide_eq_true by28
  have hk : cellsK (us ++ [v]) = cellsK us ++ cellsT v := by rw [cellsK_append]; simp only [cellsK, List.append_nil]
  have hm : ∀ s, moreA Try.prog 28 6 (some 26) s (.sl (cellsT v) 1 .tight) = some (cellsT v, 1) := fun s => by
    simp only [moreA, Option.map_some, tkTk, cellsT_len, Nat.one_mul, ↓reduceIte]
  have hc : (us.length + 1) * byOf Try.prog 28 ≤ 140737488355328 ∧ us.length + 1 ≤ 9223372036854775807 := by
    have : (us.length + 1) * byOf Try.prog 28 ≤ 1000001 * 200 := Nat.mul_le_mul (by omega) hb
    omega
  rcases h with ⟨rfl, rfl⟩ | ⟨_, t, rfl, hs⟩
  · refine ⟨_, upd s d ⟨(s d).t + 1, .tok 6⟩, ?_, .inr ⟨by simp, (s d).t + 1, rfl, upd_same _ _ _⟩, fun q hq => upd_ne _ _ hq⟩
    simp only [appendA, List.getElem?_toArray, List.getElem?_cons_zero, List.getElem?_cons_succ, Option.map_some, tkTk, eszT, Option.bind_some, hm, baseA, List.length_nil, Nat.zero_mul, ↓reduceIte, zl28, and_true]
    rw [if_pos (by simpa using hc)]
    simp [cellsK]
  · refine ⟨_, upd (upd s d ⟨t, .dead⟩) d ⟨t + 1, .tok 6⟩, ?_, .inr ⟨by simp, t + 1, rfl, upd_same _ _ _⟩, fun q hq => (upd_ne _ _ hq).trans (upd_ne _ _ hq)⟩
    simp only [appendA, List.getElem?_toArray, List.getElem?_cons_zero, List.getElem?_cons_succ, Option.map_some, tkTk, eszT, Option.bind_some, hm, baseA, hs, cellsK_len, and_self, ↓reduceIte, zl28, and_true]
    rw [if_pos hc]
    simp only [upd_same, List.length_append, List.length_cons, List.length_nil, Nat.zero_add, hk]
def kgOf (us : List T) : Gk := if us = [] then .n else .l
theorem Ap.settled {s : St} {d : Nat} {x : AV} {us : List T} (h : Ap s d x us) : Go.Ab.settled x = some (.sl (cellsK us) us.length (gr (kgOf us))) := by
  rcases h with ⟨rfl, rfl⟩ | ⟨hu, t, rfl, _⟩
  · rfl
  · simp only [Go.Ab.settled, kgOf, if_neg hu, gr]
end Go.Ab

/- Terms in their order: mathematics. Conditions: terms that may be. -/
namespace Go.Ab
open Go.Proofs
set_option maxRecDepth 100000
set_option linter.unusedSimpArgs false

end Go.Ab

/- The statement TermOrders. Conditions: limbs in range; texts in range. -/
namespace Go.Ab
open Go.Proofs
set_option maxRecDepth 100000
set_option linter.unusedSimpArgs false

mutual
theorem ht_nod : ∀ t : T, htT t ≤ nodT t
  | .mk _ _ _ _ _ _ _ ks => by have := htK_nod ks; simp only [htT, nodT]; omega
theorem htK_nod : ∀ ks : List T, htK ks ≤ nodK ks
  | [] => Nat.le_refl _
  | t :: r => by have := ht_nod t; have := htK_nod r; simp only [htK, nodK]; omega
end
end Go.Ab

/- The reference's own functions on numbers: reading, normal forms, comparing. Conditions: limbs in range, not too many. -/
namespace Go.Ab
open Go.Proofs
set_option maxRecDepth 100000
set_option linter.unusedSimpArgs false

end Go.Ab

/- The reference's own functions on numbers: Cmp, Add, Sub. Conditions: limbs in range, not too many. -/
namespace Go.Ab
open Go.Proofs
set_option maxRecDepth 100000
set_option linter.unusedSimpArgs false

end Go.Ab

/- The reference's own functions on numbers: Add, Sub. Conditions: limbs in range, not too many. -/
namespace Go.Ab
open Go.Proofs
set_option maxRecDepth 100000
set_option linter.unusedSimpArgs false

end Go.Ab

/- The reference's Sub. Conditions: limbs in range, not too many. -/
namespace Go.Ab
open Go.Proofs
set_option maxRecDepth 100000
set_option linter.unusedSimpArgs false

end Go.Ab

/- The reference's Mul. Conditions: limbs in range, not too many. -/
namespace Go.Ab
open Go.Proofs
set_option maxRecDepth 100000
set_option linter.unusedSimpArgs false

end Go.Ab

/- The reference's Shr. Conditions: limbs in range, not too many. -/
namespace Go.Ab
open Go.Proofs
set_option maxRecDepth 100000
set_option linter.unusedSimpArgs false

end Go.Ab

/- The reference's Len. Conditions: limbs in range, not too many. -/
namespace Go.Ab
open Go.Proofs
set_option maxRecDepth 100000
set_option linter.unusedSimpArgs false

end Go.Ab

/- The reference's Shl. Conditions: limbs in range, not too many. -/
namespace Go.Ab
open Go.Proofs
set_option maxRecDepth 100000
set_option linter.unusedSimpArgs false

end Go.Ab

/- The reference's Div. Conditions: limbs in range, not too many. -/
namespace Go.Ab
open Go.Proofs
set_option maxRecDepth 100000
set_option linter.unusedSimpArgs false

section
variable (n d : Nat) (hn : 100000 ≤ n) (D : Nat) (s : St)
include hn
end
end Go.Ab

/- The reference's numbers: what is a number, made of limbs, of ints; its compare. Conditions: limbs in range. -/
namespace Go.Ab
open Go.Proofs
set_option maxRecDepth 100000
set_option linter.unusedSimpArgs false

section
variable (n d : Nat) (hn : 100000 ≤ n) (D : Nat) (s : St)
include hn
end
end Go.Ab

/- Small Ints as terms; rows and lists of them, compared. Conditions: numbers that Go has. -/
namespace Go.Ab
open Go.Proofs
set_option maxRecDepth 100000
set_option linter.unusedSimpArgs false

def I64 (v : Int) : Prop := -9223372036854775808 ≤ v ∧ v ≤ 9223372036854775807
def intT (v : Int) : T := .mk 1 (decide (v < 0)) .l (digs v.natAbs) [] 0 .n []
def nilT' : T := .mk 3 false .n [] [] 0 .n []
def tupT (kg : Gk) (us : List T) : T := .mk 5 false .n [] [] 0 kg us
end Go.Ab

/- The statement TermTuples. Conditions: numbers that Go has. -/
namespace Go.Ab
open Go.Proofs
set_option maxRecDepth 100000
set_option linter.unusedSimpArgs false

def intsA (xs : List Int) : List AV := xs.map (AV.int .i64)
theorem bs1T (e : T) : (fillA (fun i => some (i * 6, 6)) (rep 1 zeroT6) [(0, .agg (cellsT e))]).map (AV.sl · 1 .tight) = some (.sl (cellsT e) 1 .tight) := by
  have h := cellsT_len e
  have a1 : splice (rep 1 zeroT6) (0 * 6) (cellsT e) = cellsT e := by
    simp only [splice, Nat.zero_mul, List.take_zero, List.nil_append, Nat.zero_add, h]; exact List.append_nil _
  simp only [fillA, settled, Option.bind_some, cellsOf]
  rw [if_pos ⟨h, by decide⟩, a1]
  rfl
theorem Ap.tup {s : St} {d : Nat} {x : AV} {us : List T} (h : Ap s d x us) : buildA Try.prog 28 [(0, .int .i64 5), (4, x)] = some (.agg (cellsT (tupT (kgOf us) us))) := by
  have hs := h.settled
  simp only [buildA, zeroT, tkT, plT, Option.bind_some, fillA, List.getElem?_cons_zero, List.getElem?_cons_succ, hs]
  simp only [tupT, cellsT, encL, encC, List.map_nil, List.length_nil, gr]
  rfl
theorem Ap.list {s : St} {d : Nat} {x : AV} {us : List T} (h : Ap s d x us) (hl : us.length ≤ 1000000) (R D : Nat) : callQ (evalFn Try.prog cfg0 R (D+1)) 84 [x, encT nilT'] = some (encT (listT us nilT')) := by
  rcases h with ⟨rfl, rfl⟩ | ⟨_, t, rfl, _⟩
  · exact callQ_trees (vs := [.sl [] 0 .nil, encT nilT']) rfl (tList_eq R D [] .nil nilT' (by decide))
  · exact callQ_loose (vs := [.sl (cellsK us) us.length (.tok d t), encT nilT']) rfl rfl rfl (tList_eq R D us .loose nilT' (by omega))

section
variable (R : Nat) (hR : 100000 ≤ R) (xs ys : List Int) (hx : ∀ x ∈ xs, I64 x) (hy : ∀ x ∈ ys, I64 x) (hxk : xs.length ≤ 30) (hyk : ys.length ≤ 30) (gx gy : Grip) (x5 x6 : AV) (s1 s2 : St) (ap : Ap s1 36 x5 (xs.map intT)) (ap2 : Ap s2 50 x6 (ys.map intT))
include hR hx hy hxk hyk ap ap2
end
end Go.Ab

/- Light terms; the items of a list. Conditions: lengths in range. -/
namespace Go.Ab
open Go.Proofs
set_option maxRecDepth 100000
set_option linter.unusedSimpArgs false

end Go.Ab

/- How many words a term takes. Conditions: terms that are lean. -/
namespace Go.Ab
open Go.Proofs
set_option maxRecDepth 100000
set_option linter.unusedSimpArgs false

end Go.Ab

/- relictref03.Same, walked. Conditions: so many limbs, nodes at most. -/
namespace Go.Ab
open Go.Proofs
set_option maxRecDepth 100000
set_option linter.unusedSimpArgs false

end Go.Ab

/- relictref03.Same of any terms. Conditions: so many limbs, nodes at most. -/
namespace Go.Ab
open Go.Proofs
set_option maxRecDepth 100000
set_option linter.unusedSimpArgs false
end Go.Ab

/- bif.number, bif.empty, bif.text; relictref03.List, relictlaw00.Proper. Conditions: lengths in range. -/
namespace Go.Ab
open Go.Proofs
set_option maxRecDepth 100000
set_option linter.unusedSimpArgs false

def numG (v : Int) : Gk := if v.natAbs = 0 then .n else .l
def smallT (v : Int) : T := .mk 1 (decide (v < 0)) (numG v) (digs v.natAbs) [] 0 .n []
theorem encZ_G (v : Int) : encZ v = .agg [.bool (decide (v < 0)), encL (numG v) (digs v.natAbs)] := rfl
theorem Ap.lent {s : St} {d : Nat} {x : AV} {us : List T} (h : Ap s d x us) : isLent x = true ∧ loosen x = .sl (cellsK us) us.length (gr (kgOf us)) := by
  rcases h with ⟨rfl, rfl⟩ | ⟨hu, t, rfl, _⟩
  · exact ⟨rfl, rfl⟩
  · exact ⟨rfl, by simp only [loosen, kgOf, if_neg hu, gr]⟩
def one26 (x : AV) : Option AV := (fillA (fun i => some (i * 6, 6)) (rep 1 zeroT6) [(0, x)]).map (.sl · 1 .tight)
theorem one26_T (e : T) : one26 (.agg (cellsT e)) = some (.sl (cellsT e) 1 .tight) := bs1T e
end Go.Ab

/- The reference's Int, Neg, Bits; copies of numbers. Conditions: limbs in range. -/
namespace Go.Ab
open Go.Proofs
set_option maxRecDepth 100000
set_option linter.unusedSimpArgs false

end Go.Ab

/- The reference's Div. Conditions: limbs in range, not too many. -/
namespace Go.Ab
open Go.Proofs
set_option maxRecDepth 100000
set_option linter.unusedSimpArgs false

end Go.Ab

/- The reference's sums, products, quotients of numbers. Conditions: limbs in range. -/
namespace Go.Ab
open Go.Proofs
set_option maxRecDepth 100000
set_option linter.unusedSimpArgs false

section
variable (n d : Nat) (hn : 100000 ≤ n)
include hn
end
section
variable (n d : Nat) (hn : 100000 ≤ n) {w w' : AV} {z z' : Int} (hw : IsN w z) (hw' : IsN w' z')
include hn hw hw'
set_option maxHeartbeats 8000000
end
end Go.Ab

/- Bits of numbers with signs, as so many limbs: plain arithmetic. -/
namespace Go.Ab
end Go.Ab

/- Bits with all ones, with nought, with themselves: plain arithmetic. -/
namespace Go.Ab
section
variable (n x : Nat) (h : x < 2 ^ n)
include h
end
section
variable (z : Int) (h : z.natAbs < B ^ 12)
include h
end
end Go.Ab

/- And, or, exclusive or together, of numbers with room: plain arithmetic. -/
namespace Go.Ab
end Go.Ab

/- Bits of numbers below 0, in so many bits as have room. Pure mathematics. -/
namespace Go.Ab
end Go.Ab

/- The reference's bits of numbers. Pure mathematics. -/
namespace Go.Ab
def f3 (op : Nat) (p q : Bool) : Bool := if op = 6 then p && q else if op = 7 then p || q else !(p == q)
section
variable {N op : Nat} {a b : Int} (ha : a.natAbs < 2 ^ N) (hb : b.natAbs < 2 ^ N)
include ha hb
end
end Go.Ab

/- The reference's bits: and, or, exclusive or, bit by bit. Conditions: limbs in range. -/
namespace Go.Ab
open Go.Proofs
set_option maxRecDepth 100000
set_option linter.unusedSimpArgs false

end Go.Ab

/- The reference's bits: the walk. Conditions: limbs in range. -/
namespace Go.Ab
open Go.Proofs
set_option maxRecDepth 100000
set_option linter.unusedSimpArgs false

end Go.Ab

/- The reference's shifts, and how far. Conditions: limbs in range. -/
namespace Go.Ab
open Go.Proofs
set_option maxRecDepth 100000
set_option linter.unusedSimpArgs false

-- Down.
-- Up.
end Go.Ab

/- And, or, exclusive or of limbs; a number's bits. Conditions: numbers that are shown. -/
namespace Go.Ab
open Go.Proofs
set_option maxRecDepth 100000
set_option linter.unusedSimpArgs false

end Go.Ab

/- A number's bits. Conditions: numbers that are shown. -/
namespace Go.Ab
open Go.Proofs
set_option maxRecDepth 100000
set_option linter.unusedSimpArgs false

end Go.Ab

/- Logic of numbers. Conditions: numbers that are shown. -/
namespace Go.Ab
open Go.Proofs
set_option maxRecDepth 100000
set_option linter.unusedSimpArgs false

end Go.Ab

/- Op: logic; the statements' own way to call it. Conditions: numbers that are shown. -/
namespace Go.Ab
open Go.Proofs
set_option maxRecDepth 100000
set_option linter.unusedSimpArgs false
section
variable (n d : Nat) (hn : 100000 ≤ n) {w w' : AV} {z z' : Int} (hw : IsN w z) (hw' : IsN w' z')
include hn hw hw'
set_option maxHeartbeats 8000000
end
end Go.Ab

/- Op: shifts. Conditions: numbers that are shown. -/
namespace Go.Ab
open Go.Proofs
set_option maxRecDepth 100000
set_option linter.unusedSimpArgs false
theorem cShift (n d : Nat) (hn : 100000 ≤ n) (g g' : Gk) (z z' : Int) (hlt : z.natAbs < B ^ 12) (hlt' : z'.natAbs < B ^ 12) (b : Bool) (D : Nat) (s : St) : callA cfg0 (evalFn Try.prog cfg0 n (d+5)) D s 42 [canA g z, canA g' z', .bool b] = some (madeV (shZ z (if b = true then -z' else z')), s) :=
  callA_trees rfl (shift_eq n d hn g g' z z' hlt hlt' b)
section
variable (n d : Nat) (hn : 100000 ≤ n) {w w' : AV} {z z' : Int} (hw : IsN w z) (hw' : IsN w' z')
include hn hw hw'
set_option maxHeartbeats 8000000
theorem op9_eq : evalFn Try.prog cfg0 n (d+6) 20 [.tree (.int .i64 9), .tree w, .tree w'] = some (.tree (madeV (shZ z z')), [[], [], []]) := by
  obtain ⟨g, c1⟩ := qOf n (d + 3) hw
  obtain ⟨g', c2⟩ := qOf n (d + 3) hw'
  have hlt := hw.lt
  have hlt' := hw'.lt
  obtain ⟨neg, g0, l, rfl, hl, hz⟩ := hw
  obtain ⟨neg', g0', l', rfl, hl', hz'⟩ := hw'
  rw [evalFn_go _ Try.func20 (by unfold Try.f20; rfl) (by unfold Try.f20; decide) (Nat.le_of_ble_eq_true (by unfold Try.f20; rfl)) (by kernel_rfl)]
  have c3 := fun D s => cShift n d hn g g' z z' hlt hlt' false D s
  rw [if_neg (show ¬ (false = true) by decide)] at c3
  simp only [simB, zbo, Nat.reduceBEq, own0, ↓reduceIte, Nat.reduceEqDiff, Nat.reduceAdd, simA, simL, simN, Nat.zero_add, st0_3', c1, c2, Int.reduceBEq, c3, madeV_eq, ext_0, ext_1, st_Z]
  exact finish_ct _ _ 6 6 1 _ _ _ _ _ _ _ (by simp only [zfk, ↓reduceIte, Nat.reduceEqDiff]) (by simp only [zfk, ↓reduceIte, Nat.reduceEqDiff]) (by simp only [zfk, ↓reduceIte, Nat.reduceEqDiff]) rfl
end
end Go.Ab

/- The reference's Op, any op; the program's, of an op that is none. Conditions: limbs in range. -/
namespace Go.Ab
open Go.Proofs
set_option maxRecDepth 100000
set_option linter.unusedSimpArgs false

section
variable (n d : Nat) (hn : 100000 ≤ n) {w w' : AV} {z z' : Int} (hw : IsN w z) (hw' : IsN w' z')
include hn hw hw'
set_option maxHeartbeats 8000000
end
end Go.Ab

/- The statement NumRooms, abstractly. Conditions: an int. -/
namespace Go.Ab
open Go.Proofs
set_option maxRecDepth 100000
set_option linter.unusedSimpArgs false

end Go.Ab

/- Op, any op: the program's and the reference's give the same number. Conditions: numbers that are shown. -/
namespace Go.Ab
open Go.Proofs
set_option maxRecDepth 100000
set_option linter.unusedSimpArgs false

section
variable (n d : Nat) (hn : 100000 ≤ n) {w w' : AV} {z z' : Int} (hw : IsN w z) (hw' : IsN w' z')
include hn hw hw'
set_option maxHeartbeats 8000000
end
end Go.Ab

/- The number statements' own example, by the kernel's own reckoning. No conditions. -/
namespace Go.Ab
open Go.Proofs
end Go.Ab

/- The statement NumOrders, abstractly. Conditions: limbs in range. -/
namespace Go.Ab
open Go.Proofs
set_option maxRecDepth 100000
set_option linter.unusedSimpArgs false

end Go.Ab

/- The statement NumAll, abstractly. Conditions: limbs in range, an int in range. -/
namespace Go.Ab
open Go.Proofs
set_option maxRecDepth 100000
set_option linter.unusedSimpArgs false

end Go.Ab

/- Numbers as texts. Pure mathematics. -/
namespace Go.Ab
end Go.Ab

/- Strings: what the library's functions upon them give. Conditions: lengths in range. -/
namespace Go.Ab
open Go.Proofs
set_option maxRecDepth 100000
set_option linter.unusedSimpArgs false

end Go.Ab

/- strings.Trim by the digits. Conditions: lengths in range. -/
namespace Go.Ab
open Go.Proofs
set_option maxRecDepth 100000
set_option linter.unusedSimpArgs false

end Go.Ab

/- The statement NumInts, abstractly. Conditions: two ints. -/
namespace Go.Ab
open Go.Proofs
set_option maxRecDepth 100000
set_option linter.unusedSimpArgs false

section
variable (a b : Int)
variable (ha : a.natAbs ≤ 2147483648) (hb : b.natAbs ≤ 2147483648)
include ha hb
end
end Go.Ab

/- A number's text. Conditions: a number that is shown. -/
namespace Go.Ab
open Go.Proofs
set_option maxRecDepth 100000
set_option linter.unusedSimpArgs false

end Go.Ab

/- A number's text: the walk. Conditions: a number that is shown. -/
namespace Go.Ab
open Go.Proofs
set_option maxRecDepth 100000
set_option linter.unusedSimpArgs false

end Go.Ab

/- relictref03.List, relictlaw00.Proper; rows of ints that grow. Conditions: lengths in range. -/
namespace Go.Ab
open Go.Proofs
set_option maxRecDepth 100000
set_option linter.unusedSimpArgs false

def ApI (s : St) (d : Nat) (x : AV) (us : List Int) : Prop := (us = [] ∧ x = .sl [] 0 .nil) ∨ (us ≠ [] ∧ ∃ t, x = .sl (intsA us) us.length (.tok d t) ∧ s d = ⟨t, .tok 1⟩)
def giOf (us : List Int) : Gk := if us = [] then .n else .l
theorem ApI.lent {s : St} {d : Nat} {x : AV} {us : List Int} (h : ApI s d x us) : isLent x = true ∧ loosen x = .sl (intsA us) us.length (gr (giOf us)) ∧ (isTree x = true → x = .sl (intsA us) us.length (gr (giOf us))) := by
  rcases h with ⟨rfl, rfl⟩ | ⟨hu, t, rfl, _⟩
  · exact ⟨rfl, rfl, fun _ => rfl⟩
  · exact ⟨rfl, by simp only [loosen, giOf, if_neg hu, gr], fun h => nomatch h⟩
end Go.Ab

/- Terms as bytes: what is written, what is read, in plain words. No conditions. -/
namespace Go.Ab
open Go.Proofs
set_option maxRecDepth 100000
set_option linter.unusedSimpArgs false

def T0 : T := .mk 0 false .n [] [] 0 .n []
theorem bdY_00 : buildA Try.prog 28 [] = some (.agg (cellsT T0)) := by
  simp only [buildA, zeroT, tkT, plT, Option.bind_some, fillA]; rfl
def u8 (z : Int) : UInt8 := UInt8.ofNat (z % 256).toNat
def be32 (v : Int) : List UInt8 := [u8 (v / 16777216), u8 (v / 65536), u8 (v / 256), u8 v]
def limB (l : List Nat) (i : Nat) : UInt8 := UInt8.ofNat (l.getD (i / 4) 0 / 2 ^ (8 * (i % 4)) % 256)
def limBs (l : List Nat) (k : Nat) : List UInt8 := (List.range k).map (limB l)
def numB (b : Bool) (l : List Nat) : List UInt8 :=
  if 0 ≤ numZ b l ∧ numZ b l ≤ 255 then [97, u8 (numZ b l)]
  else if -2147483648 ≤ numZ b l ∧ numZ b l ≤ 2147483647 then 98 :: be32 (numZ b l)
  else 110 :: u8 ((blen (numZ b l).natAbs + 7) / 8 : Nat) :: (if b then 1 else 0) :: limBs l ((blen (numZ b l).natAbs + 7) / 8)
mutual
def putA : T → List UInt8 × List UInt8 × Nat
  | .mk k b _ l s _ _ ks =>
    if k = 4 then (108 :: (be32 (putP ks).2 ++ (putP ks).1), (putP ks).1, (putP ks).2)
    else
      (if k = 1 then numB b l else if k = 2 then 119 :: u8 s.length :: s else if k = 3 then [106] else if k = 5 then 104 :: u8 ks.length :: putK ks else 109 :: (be32 s.length ++ s),
       if k = 1 then numB b l else if k = 2 then 119 :: u8 s.length :: s else if k = 3 then [106] else if k = 5 then 104 :: u8 ks.length :: putK ks else 109 :: (be32 s.length ++ s), 0)
def putK : List T → List UInt8
  | [] => []
  | t :: r => (putA t).1 ++ putK r
def putP : List T → List UInt8 × Nat
  | [] => ([], 1)
  | h :: r => ((putA h).1 ++ putQ r, putN r)
def putQ : List T → List UInt8
  | [] => []
  | t :: _ => (putA t).2.1
def putN : List T → Nat
  | [] => 1
  | t :: _ => (putA t).2.2 + 1
end
def putB (t : T) : List UInt8 := (putA t).1

structure RS where
  i : Nat
  tm : Int
  e : Int
def RS.fail (s : RS) (e : Int) : RS := if s.e = 0 then ⟨s.i, s.tm, e⟩ else s
def takeR (bs : List UInt8) (s : RS) (n : Nat) : Option (List UInt8) × RS :=
  if s.e ≠ 0 ∨ bs.length < s.i + n then (none, s.fail 3) else (some ((bs.drop s.i).take n), ⟨s.i + n, s.tm, s.e⟩)
def beV : List UInt8 → Int → Int
  | [], v => v
  | b :: r, v => beV r (v * 256 + (b.toNat : Int))
def manyR (bs : List UInt8) (s : RS) (n : Nat) (least most : Int) : Int × RS :=
  let o := takeR bs s n
  let v := beV (o.1.getD []) 0
  if o.2.e ≠ 0 then (0, o.2) else if v < least ∨ most < v then (0, o.2.fail 4) else (v, o.2)
def limR (x : List UInt8) : Nat → Nat → List Nat
  | 0, _ => []
  | m + 1, j => ((x.getD (4 * j) 0).toNat + 256 * (x.getD (4 * j + 1) 0).toNat + 65536 * (x.getD (4 * j + 2) 0).toNat + 16777216 * (x.getD (4 * j + 3) 0).toNat) :: limR x m (j + 1)
def bigR (x : List UInt8) : Bool × Gk × List Nat := if x.length < 2 then (false, .n, []) else (x.headD 0 == 1, .l, limR x.tail ((x.length + 2) / 4) 0)
def i32 (v : Int) : Int := if v < 2147483648 then v else v - 4294967296
def int0 : T := .mk 1 false .n [] [] 0 .n []
def one97 : List UInt8 → T
  | [x] => smallT (x.toNat : Int)
  | _ => int0
def plainR (bs : List UInt8) (s : RS) (tag : Nat) (from_ : Nat) : T × RS :=
  let p : T × RS :=
    if tag = 97 then
      let o := takeR bs s 1
      (one97 (o.1.getD []), o.2)
    else if tag = 98 then
      let o := takeR bs s 4
      (match o.1 with | some x => smallT (i32 (beV x 0)) | none => .mk 1 false .n [] [] 0 .n [], o.2)
    else if tag = 110 then
      let m := manyR bs s 1 1 48
      let o := takeR bs m.2 (1 + m.1.toNat)
      let g := bigR (o.1.getD [])
      (.mk 1 g.1 g.2.1 g.2.2 [] 0 .n [], o.2)
    else if tag = 119 then
      let m := manyR bs s 1 1 40
      let o := takeR bs m.2 m.1.toNat
      (.mk 2 false .n [] (o.1.getD []) 0 .n [], o.2)
    else if tag = 109 then
      let m := manyR bs s 4 0 400
      let o := takeR bs m.2 m.1.toNat
      (.mk 6 false .n [] (o.1.getD []) 0 .n [], o.2)
    else (nilT', s)
  (p.1, if p.2.e = 0 ∧ ¬ (putB p.1 = (bs.drop from_).take (p.2.i - from_) ∧ ownT p.1 = true) then p.2.fail 4 else p.2)
def someR (rd : RS → T × RS) : Nat → RS → List T → List T × RS
  | 0, s, acc => (acc, s)
  | n + 1, s, acc => let r := rd s; if r.2.e ≠ 0 then (acc, r.2) else someR rd n r.2 (acc ++ [r.1])
def termR (bs : List UInt8) : Nat → Int → RS → T × RS
  | 0, _, s => (T0, s)
  | f + 1, deep, s =>
    let o := takeR bs s 1
    if o.2.e ≠ 0 then (T0, o.2) else
    let s1 : RS := ⟨o.2.i, o.2.tm + 1, o.2.e⟩
    let tag := ((o.1.getD []).headD 0).toNat
    if s1.tm > 2000 ∨ deep > 60 then (T0, s1.fail 4)
    else if tag = 97 ∨ tag = 98 ∨ tag = 110 ∨ tag = 119 ∨ tag = 109 ∨ tag = 106 then plainR bs s1 tag s.i
    else if tag = 108 then
      let m := manyR bs s1 4 1 (2001 - s1.tm)
      let h := someR (termR bs f (deep + 1)) m.1.toNat ⟨m.2.i, m.2.tm + (m.1 - 1), m.2.e⟩ []
      let t := termR bs f deep h.2
      (listT h.1 t.1, if kindT t.1 = 4 then t.2.fail 4 else t.2)
    else if tag = 104 then
      let m := manyR bs s1 1 0 40
      let h := someR (termR bs f (deep + 1)) m.1.toNat m.2 []
      (tupT (kgOf h.1) h.1, h.2)
    else (T0, s1.fail 4)
def getR (bs : List UInt8) (at_ : Int) : T × Int × Int :=
  if at_ < 0 ∨ at_ > bs.length then (T0, 0, 1) else
  let r := termR bs (bs.length + 2) 1 ⟨at_.toNat, 0, 0⟩
  if r.2.e ≠ 0 then (T0, 0, r.2.e) else (r.1, (r.2.i : Int), 0)
end Go.Ab

/- Terms that may be: by their parts; as term.Check and relictref03.Check count them. No conditions. -/
namespace Go.Ab
open Go.Proofs
set_option maxRecDepth 100000
set_option linter.unusedSimpArgs false

mutual
def okD : T → Int → Prop
  | .mk k b lg l s n kg ks, d => d ≤ 60 ∧ ownT (.mk k b lg l s n kg ks) = true ∧ okJ k ks 0 d
def okJ (k : Int) : List T → Nat → Int → Prop
  | [], _, _ => True
  | t :: r, i, d => okD t (if k = 4 ∧ i = 1 then d else d + 1) ∧ okJ k r (i + 1) d
end
theorem okJ_no4 {k : Int} (hk : k ≠ 4) : ∀ (ks : List T) (i j : Nat) (d : Int), okJ k ks i d ↔ okJ k ks j d
  | [], _, _, _ => by simp only [okJ]
  | t :: r, i, j, d => by
    simp only [okJ]
    rw [if_neg (by omega), if_neg (by omega), okJ_no4 hk r (i + 1) (j + 1) d]
mutual
theorem chk_okD : ∀ (t : T) (deep left : Int), (chkT t deep left).1 = true → okD t deep
  | .mk k b lg l s m kg ks, deep, left, h => by
    simp only [chkT] at h
    split at h
    · cases h
    · rename_i hg
      have ho : ownT (.mk k b lg l s m kg ks) = true := by
        cases h0 : ownT (.mk k b lg l s m kg ks)
        · exact absurd (.inr (.inr h0)) hg
        · rfl
      simp only [okD]
      refine ⟨by omega, ho, ?_⟩
      split at h
      · rename_i hk
        subst hk
        exact chk_okC ks deep _ ho h
      · rename_i hk
        exact (okJ_no4 hk ks 0 0 deep).1 (chk_okK k hk ks deep _ h)
theorem chk_okC {b : Bool} {lg : Gk} {l : List Nat} {s : List UInt8} {m : Int} {kg : Gk} : ∀ (ks : List T) (deep left : Int), ownT (.mk 4 b lg l s m kg ks) = true → (chkC ks deep left).1 = true → okJ 4 ks 0 deep
  | [], deep, left, _, h => by simp only [okJ]
  | [x], deep, left, ho, h => by
    obtain ⟨_, _, e⟩ := own_kids ho rfl
    cases e
  | [x, y], deep, left, ho, h => by
    simp only [chkC, chkL] at h
    simp only [okJ, and_true]
    split at h
    · rename_i h1
      exact ⟨by simpa using chk_okD x _ _ h1, by simpa using chk_okD y _ _ h⟩
    · rename_i h1; exact absurd h h1
  | x :: y :: z :: r, deep, left, ho, h => by
    obtain ⟨_, _, e⟩ := own_kids ho rfl
    cases e
theorem chk_okK (k : Int) (hk : k ≠ 4) : ∀ (ks : List T) (deep left : Int), (chkK ks (deep + 1) left).1 = true → okJ k ks 0 deep
  | [], deep, left, h => by simp only [okJ]
  | t :: r, deep, left, h => by
    simp only [chkK] at h
    simp only [okJ]
    split at h
    · rename_i h1
      refine ⟨?_, (okJ_no4 hk r 0 1 deep).1 (chk_okK k hk r deep _ h)⟩
      rw [if_neg (by omega)]
      exact chk_okD t _ _ h1
    · rename_i h1; exact absurd h h1
end
mutual
theorem okD_chk : ∀ (t : T) (deep left : Int), okD t deep → nodT t ≤ left → chkT t deep left = (true, left - nodT t)
  | .mk k b lg l s m kg ks, deep, left, h, hl => by
    simp only [okD] at h
    simp only [nodT] at hl ⊢
    simp only [chkT]
    rw [if_neg (by rw [h.2.1]; simp; omega)]
    split
    · rename_i hk
      subst hk
      rw [okJ_chkC ks deep _ h.2.1 h.2.2 (by omega)]
      congr 1; omega
    · rename_i hk
      rw [okJ_chkK k hk ks 0 deep _ h.2.2 (by omega)]
      congr 1; omega
theorem okJ_chkC {b : Bool} {lg : Gk} {l : List Nat} {s : List UInt8} {m : Int} {kg : Gk} : ∀ (ks : List T) (deep left : Int), ownT (.mk 4 b lg l s m kg ks) = true → okJ 4 ks 0 deep → nodK ks ≤ left → chkC ks deep left = (true, left - nodK ks)
  | [], deep, left, ho, h, _ => by
    obtain ⟨_, _, e⟩ := own_kids ho rfl
    cases e
  | [x], deep, left, ho, h, _ => by
    obtain ⟨_, _, e⟩ := own_kids ho rfl
    cases e
  | [x, y], deep, left, ho, h, hl => by
    simp only [okJ, and_true] at h
    simp only [nodK] at hl ⊢
    have h1 : okD x (deep + 1) := by simpa using h.1
    have h2 : okD y deep := by simpa using h.2
    simp only [chkC, chkL]
    rw [okD_chk x _ _ h1 (by omega)]
    simp only [if_true]
    rw [okD_chk y _ _ h2 (by omega)]
    congr 1; omega
  | x :: y :: z :: r, deep, left, ho, h, _ => by
    obtain ⟨_, _, e⟩ := own_kids ho rfl
    cases e
theorem okJ_chkK (k : Int) (hk : k ≠ 4) : ∀ (ks : List T) (i : Nat) (deep left : Int), okJ k ks i deep → nodK ks ≤ left → chkK ks (deep + 1) left = (true, left - nodK ks)
  | [], i, deep, left, h, hl => by simp only [chkK, nodK]; congr 1; omega
  | t :: r, i, deep, left, h, hl => by
    simp only [okJ] at h
    simp only [nodK] at hl ⊢
    have h1 : okD t (deep + 1) := by have := h.1; rwa [if_neg (by omega)] at this
    simp only [chkK]
    rw [okD_chk t _ _ h1 (by omega)]
    simp only [if_true]
    rw [okJ_chkK k hk r (i + 1) deep _ h.2 (by omega)]
    congr 1; omega
end
end Go.Ab

/- The run of what writes and reads bytes; bytes put behind others (CFG5). Conditions: lengths in range. -/
namespace Go.Ab
open Go.Proofs
set_option maxRecDepth 100000
set_option linter.unusedSimpArgs false

def run5 (f : FuncId) : Bool := f == 47 || f == 49 || f == 46 || f == 48 || f == 28 || f == 30 || f == 52 || f == 51 || f == 31 || f == 53 || f == 54 || f == 55 || f == 56 || f == 57 || f == 58 || f == 32 || f == 59 || f == 60 || f == 61 || f == 62 || f == 64 || f == 65 || f == 66 || f == 10 || f == 13 || f == 83 || f == 12 || f == 14 || f == 3 || f == 4 || f == 5 || f == 6 || f == 7 || f == 9 || f == 17
noncomputable def prim5 (f : FuncId) (xs : List Arg) : Option Out := match run5 f with
  | true => none
  | false => evalFn Try.prog cfg0 9223372036854775808 6190 f xs
def keep5' (f : FuncId) : Bool := f == 47 || f == 49 || f == 46 || f == 48 || f == 28 || f == 30 || f == 52 || f == 51 || f == 1048623 || f == 1048625 || f == 1048622 || f == 1048624 || f == 1048604 || f == 1048606 || f == 1048628 || f == 1048627 || f == 1048607 || f == 1048629 || f == 1048630 || f == 1048631 || f == 1048632 || f == 1048633 || f == 1048634 || f == 1048608 || f == 1048635 || f == 1048636 || f == 1048637 || f == 1048638 || f == 1048640 || f == 1048641 || f == 1048642 || f == 17
def lin5' (f : FuncId) (j : Nat) : Bool := j == 0 && (f == 47 || f == 49 || f == 46 || f == 48 || f == 28 || f == 30 || f == 52 || f == 51)
noncomputable def cfg5 : Cfg := ⟨lin5', keep5', prim5, fun p => p == "&ext.go:173" || p == "=ext.go:173" || p == "@ext.go:70" || p == "@ext.go:35" || p == "@ext.go:91" || p == "@ref.go:67" || p == "@ref.go:37" || p == "@ref.go:16" || p == "^law.go:41"⟩
theorem own5 (p : String) : cfg5.ownAt p = (p == "&ext.go:173" || p == "=ext.go:173" || p == "@ext.go:70" || p == "@ext.go:35" || p == "@ext.go:91" || p == "@ref.go:67" || p == "@ref.go:37" || p == "@ref.go:16" || p == "^law.go:41") := rfl
theorem keep5 (f : FuncId) : cfg5.keep f = (f == 47 || f == 49 || f == 46 || f == 48 || f == 28 || f == 30 || f == 52 || f == 51 || f == 1048623 || f == 1048625 || f == 1048622 || f == 1048624 || f == 1048604 || f == 1048606 || f == 1048628 || f == 1048627 || f == 1048607 || f == 1048629 || f == 1048630 || f == 1048631 || f == 1048632 || f == 1048633 || f == 1048634 || f == 1048608 || f == 1048635 || f == 1048636 || f == 1048637 || f == 1048638 || f == 1048640 || f == 1048641 || f == 1048642 || f == 17) := by
  show keep5' f = _
  unfold keep5'
  rfl
theorem lin5 (f : FuncId) (j : Nat) : cfg5.lin f j = (j == 0 && (f == 47 || f == 49 || f == 46 || f == 48 || f == 28 || f == 30 || f == 52 || f == 51)) := by
  show lin5' f j = _
  unfold lin5'
  rfl
theorem ev5 {n d : Nat} {f : FuncId} {xs : List Arg} {o : Out} (h1 : run5 f = false) (h : evalFn Try.prog cfg0 9223372036854775808 6190 f xs = some o) : evalFn Try.prog cfg5 n (d+1) f xs = some o := by
  have hc : cfg5.prim = prim5 := rfl
  have hp : prim5 f xs = some o := by unfold prim5; rw [h1]; exact h
  rw [evalFn]
  simp only [hc, hp]

theorem cB_len (bs : List UInt8) : (cellsOfBytes bs).length = bs.length := List.length_map _
theorem cB_app (a b : List UInt8) : cellsOfBytes (a ++ b) = cellsOfBytes a ++ cellsOfBytes b := List.map_append
theorem cB_take (bs : List UInt8) (i : Nat) : (cellsOfBytes bs).take i = cellsOfBytes (bs.take i) := (List.map_take ..).symm
theorem cB_drop (bs : List UInt8) (i : Nat) : (cellsOfBytes bs).drop i = cellsOfBytes (bs.drop i) := (List.map_drop ..).symm
theorem bytesOf_cB : ∀ bs : List UInt8, bytesOf (cellsOfBytes bs) = some bs
  | [] => rfl
  | b :: r => by
    have h := bytesOf_cB r
    simp only [cellsOfBytes, List.map_cons, bytesOf] at h ⊢
    rw [h]
    simp
theorem tkB : tkOf Try.prog 22 = .sl 5 := by kernel_rfl
theorem tkU8 : tkOf Try.prog 5 = .int .u8 := by kernel_rfl
theorem eszB : esz Try.prog 5 = some 1 := by kernel_rfl
theorem zeroB8 : zeroOf Try.prog 5 = some [.int .u8 0] := by kernel_rfl
theorem byB : byOf Try.prog 5 = 1 := by kernel_rfl
def Base (a : Arg) (bs : List UInt8) : Prop := (∃ g, (g = .tight ∨ g = .nil) ∧ a = .tree (.sl (cellsOfBytes bs) bs.length g)) ∨ a = .tok (cellsOfBytes bs) bs.length 1
def Bs (st : St) (p : Nat) (x : AV) (bs : List UInt8) : Prop := (∃ g, (g = .tight ∨ g = .nil) ∧ x = .sl (cellsOfBytes bs) bs.length g) ∨ ∃ t, x = .sl (cellsOfBytes bs) bs.length (.tok p t) ∧ st p = ⟨t, .tok 1⟩
theorem Base.start {a : Arg} {bs : List UInt8} (h : Base a bs) (r : List Arg) : Bs (st0 (a :: r)) 0 (env0 (a :: r) 0) bs := by
  rcases h with ⟨g, hg, rfl⟩ | rfl
  · exact .inl ⟨g, hg, rfl⟩
  · exact .inr ⟨0, rfl, rfl⟩
theorem Base.outs {a : Arg} {bs : List UInt8} (h : Base a bs) (s : St) (vs : List AV) : outsA s 0 (a :: vs.map .tree) = some ([] :: vs.map fun _ => []) := by
  have h2 : ∀ (vs : List AV) (k : Nat), outsA s k (vs.map .tree) = some (vs.map fun _ => []) := by
    intro vs
    induction vs with
    | nil => intro k; rfl
    | cons v vs ih => intro k; simp only [List.map_cons, outsA, ih, Option.bind_some, Option.map_some]
  rcases h with ⟨g, hg, rfl⟩ | rfl
  · simp only [outsA, h2, Option.bind_some, Option.map_some]
  · simp only [outsA, h2, Option.bind_some, Option.map_some]
theorem Bs.call {call : FuncId → List Arg → Option Out} {f : FuncId} {st : St} {p : Nat} {x : AV} {bs : List UInt8} (h : Bs st p x bs) (hl : cfg5.lin f 0 = true) (vs : List AV) (ht : vs.all isTree = true) (bs' : List UInt8)
    (hc : ∀ a, Base a bs → call f (a :: vs.map .tree) = some (.tok (cellsOfBytes bs') bs'.length 1, [] :: vs.map fun _ => [])) (D : Nat) :
    ∃ st' t', callA cfg5 call D st f (x :: vs) = some (.sl (cellsOfBytes bs') bs'.length (.tok D t'), st') ∧ st' D = ⟨t', .tok 1⟩ ∧ ∀ q, q ≠ D → q ≠ p → st' q = st q := by
  rcases h with ⟨g, hg, rfl⟩ | ⟨t, rfl, hp⟩
  · have hx : isTree (.sl (cellsOfBytes bs) bs.length g) = true := by rcases hg with rfl | rfl <;> rfl
    have hall : ((AV.sl (cellsOfBytes bs) bs.length g) :: vs).all isTree = true := by simp only [List.all_cons, hx, ht, Bool.and_self]
    have h1 := hc _ (.inl ⟨g, hg, rfl⟩)
    refine ⟨upd st D ⟨(st D).t + 1, .tok 1⟩, (st D).t + 1, ?_, by simp [upd], fun q hq _ => upd_ne _ _ hq⟩
    have e1 : (AV.sl (cellsOfBytes bs) bs.length g :: vs).map Arg.tree = .tree (.sl (cellsOfBytes bs) bs.length g) :: vs.map .tree := rfl
    have e2 : ([] : List AV) :: vs.map (fun _ => ([] : List AV)) = (AV.sl (cellsOfBytes bs) bs.length g :: vs).map (fun _ => []) := rfl
    rw [← e1, e2] at h1
    simp only [callA, argsA_trees f st _ 0 hall, Option.bind_some, givesL_trees, lendsL_trees _ hall, List.nodup_nil, List.not_mem_nil, false_implies, implies_true, and_self, if_true, h1, List.foldl_nil, ite_self, backA_trees, resA]
  · have h1 := hc _ (.inr rfl)
    have ha : argA cfg5 f st 0 (.sl (cellsOfBytes bs) bs.length (.tok p t)) = some (.tok (cellsOfBytes bs) bs.length 1) := by
      simp only [argA, hl, if_true, hp]
      rw [if_pos ⟨trivial, by rw [cB_len, Nat.mul_one]⟩]
    have hgl : givesL (.sl (cellsOfBytes bs) bs.length (.tok p t) :: vs) (.tok (cellsOfBytes bs) bs.length 1 :: vs.map .tree) = [p] := by simp only [givesL, givesOf, givesL_trees]
    have hll : lendsL (.sl (cellsOfBytes bs) bs.length (.tok p t) :: vs) (.tok (cellsOfBytes bs) bs.length 1 :: vs.map .tree) = [] := by simp only [lendsL, lendsOf, lendsL_trees vs ht]
    refine ⟨upd (upd st p ⟨t, .dead⟩) D ⟨((upd st p ⟨t, .dead⟩) D).t + 1, .tok 1⟩, ((upd st p ⟨t, .dead⟩) D).t + 1, ?_, by simp [upd], fun q hq hqp => by rw [upd_ne _ _ hq, upd_ne _ _ hqp]⟩
    simp only [callA, argsA, ha, argsA_trees f st vs 1 ht, Option.bind_some, Option.map_some, hgl, hll, List.nodup_cons, List.nodup_nil, List.not_mem_nil, not_false_eq_true, false_implies, implies_true, and_self, if_true, h1, List.foldl_nil, ite_self, backA, givesOf, backA_trees, hp, resA]
theorem finish_Bs {a : Arg} {bs0 : List UInt8} (hb : Base a bs0) (vs : List AV) (k : Bool) (hk : k = true) (t p i : Nat) (bs : List UInt8) (env : Env) (s : St) (hv : env t = .sl (cellsOfBytes bs) bs.length (.tok p i)) (hs : s p = ⟨i, .tok 1⟩) :
    finishP Try.prog k (a :: vs.map .tree) #[.tmp t] env s = some (.tok (cellsOfBytes bs) bs.length 1, [] :: vs.map fun _ => []) := by
  subst hk
  rw [finishP_t1]
  simp only [finish, finish1, hv, if_true, hs, Option.bind_some, hb.outs, Option.map_some]
theorem appendB {st : St} {p : Nat} {x : AV} {a : List UInt8} (h : Bs st p x a) (b : List UInt8) (g : Grip) (_hg : g.isTok = false) (hl : a.length + b.length ≤ 1000000000000) (D : Nat) :
    ∃ st' t', appendA Try.prog #[22, 22] D st x (.sl (cellsOfBytes b) b.length g) = some (.sl (cellsOfBytes (a ++ b)) (a ++ b).length (.tok D t'), st') ∧ st' D = ⟨t', .tok 1⟩ ∧ ∀ q, q ≠ D → q ≠ p → st' q = st q := by
  have hm : ∀ s, moreA Try.prog 5 1 (some 22) s (.sl (cellsOfBytes b) b.length g) = some (cellsOfBytes b, b.length) := fun s => by
    simp only [moreA, Option.map_some, tkB, cB_len, Nat.mul_one, if_true]
  have hz : (zeroOf Try.prog 5).map List.length = some 1 := by rw [zeroB8]; rfl
  rcases h with ⟨g', hg', rfl⟩ | ⟨t, rfl, hp⟩
  · refine ⟨upd st D ⟨(st D).t + 1, .tok 1⟩, (st D).t + 1, ?_, by simp [upd], fun q hq _ => upd_ne _ _ hq⟩
    have hb : baseA 1 st (.sl (cellsOfBytes a) a.length g') = some (cellsOfBytes a, a.length, st) := by
      rcases hg' with rfl | rfl <;> simp only [baseA, cB_len, Nat.mul_one, if_true]
    simp only [appendA, List.getElem?_toArray, List.getElem?_cons_zero, List.getElem?_cons_succ, Option.map_some, tkB, eszB, Option.bind_some, hm, hb, byB]
    rw [if_pos ⟨by omega, by omega, hz⟩, cB_app, List.length_append]
  · refine ⟨upd (upd st p ⟨t, .dead⟩) D ⟨((upd st p ⟨t, .dead⟩) D).t + 1, .tok 1⟩, ((upd st p ⟨t, .dead⟩) D).t + 1, ?_, by simp [upd], fun q hq hqp => by rw [upd_ne _ _ hq, upd_ne _ _ hqp]⟩
    have hb : baseA 1 st (.sl (cellsOfBytes a) a.length (.tok p t)) = some (cellsOfBytes a, a.length, upd st p ⟨t, .dead⟩) := by
      simp only [baseA, hp]
      rw [if_pos ⟨trivial, trivial, by rw [cB_len, Nat.mul_one]⟩]
    simp only [appendA, List.getElem?_toArray, List.getElem?_cons_zero, List.getElem?_cons_succ, Option.map_some, tkB, eszB, Option.bind_some, hm, hb, byB]
    rw [if_pos ⟨by omega, by omega, hz⟩, cB_app, List.length_append]
set_option maxHeartbeats 4000000 in
theorem put_eq (n d : Nat) {a : Arg} {bs : List UInt8} (ha : Base a bs) (b : List UInt8) (g : Grip) (hg : g.isTok = false) (hl : bs.length + b.length ≤ 1000000000000) :
    evalFn Try.prog cfg5 n (d+1) 47 [a, .tree (.sl (cellsOfBytes b) b.length g)] = some (.tok (cellsOfBytes (bs ++ b)) (bs ++ b).length 1, [[], []]) := by
  rw [evalFn_go _ Try.func47 (by unfold Try.f47; rfl) (by unfold Try.f47; decide) (Nat.le_of_ble_eq_true (by unfold Try.f47; rfl)) (by kernel_rfl)]
  have hB := ha.start [.tree (.sl (cellsOfBytes b) b.length g)]
  have e1 : env0 [a, .tree (.sl (cellsOfBytes b) b.length g)] 1 = .sl (cellsOfBytes b) b.length g := rfl
  generalize env0 [a, .tree (.sl (cellsOfBytes b) b.length g)] = env at hB e1
  generalize st0 [a, .tree (.sl (cellsOfBytes b) b.length g)] = st at hB
  generalize e0 : env 0 = x at hB
  obtain ⟨st', t', c1, c2, c3⟩ := appendB hB b g hg hl 7
  simp only [simB, keep5, Nat.reduceBEq, own5, String.reduceAppend, String.reduceBEq, Bool.or_false, Bool.or_true, Bool.or_self, ↓reduceIte, Nat.reduceEqDiff, Nat.reduceAdd, simL, simN, Nat.zero_add, e0, e1, c1]
  exact finish_Bs ha [.sl (cellsOfBytes b) b.length g] _ rfl _ 7 t' _ _ _ (by simp only [zfk, ↓reduceIte, Nat.reduceEqDiff]; try rfl) c2
end Go.Ab

/- Four bytes, a number's bytes put behind others (CFG5). Conditions: lengths in range. -/
namespace Go.Ab
open Go.Proofs
set_option maxRecDepth 100000
set_option linter.unusedSimpArgs false

theorem u8_val (z : Int) : ((u8 z).toNat : Int) = z % 256 := by
  have h1 : (z % 256).toNat < 256 := by omega
  simp only [u8, UInt8.toNat_ofNat']
  omega
theorem conv3_5b (s : St) (z : Int) : convA Try.prog 3 5 s (.int .i64 z) = some (.int .u8 ((u8 z).toNat : Int)) := by
  simp only [convA, tk3, tkU8, u8_val]
  congr 2
theorem conv31_5b (s : St) (x : Nat) : convA Try.prog 56 5 s (.int .u32 (x : Int)) = some (.int .u8 ((UInt8.ofNat (x % 256)).toNat : Int)) := by
  have h1 : x % 256 < 256 := by omega
  simp only [convA, tk31, tkU8, UInt8.toNat_ofNat']
  have e : IntKind.u8.wrap (x : Int) = (x : Int) % 256 := rfl
  rw [e]
  congr 2
  omega
def lit1 (x : AV) : Option AV := (fillA (fun i => some (i * 1, 1)) (rep 1 [.int .u8 0]) [(0, x)]).map (.sl · 1 .tight)
def lit2 (x y : AV) : Option AV := (fillA (fun i => some (i * 1, 1)) (rep 2 [.int .u8 0]) [(0, x), (1, y)]).map (.sl · 2 .tight)
def lit3 (x y z : AV) : Option AV := (fillA (fun i => some (i * 1, 1)) (rep 3 [.int .u8 0]) [(0, x), (1, y), (2, z)]).map (.sl · 3 .tight)
def lit4 (x y z w : AV) : Option AV := (fillA (fun i => some (i * 1, 1)) (rep 4 [.int .u8 0]) [(0, x), (1, y), (2, z), (3, w)]).map (.sl · 4 .tight)
section
variable (call : FuncId → List Arg → Option Out) (q : Bool) (d : Option Tmp) (ty : TypeId) (pos : String) (af : Array Edge) (g : Option (Nat × Bool)) (t : Nat) (env : Env) (s : St) (x y z w : Operand)
theorem opA_lit1 : opA Try.prog cfg5 call q ⟨d, .buildSlice 22 1 #[(0, x)], ty, pos, af, g⟩ t env s = (lit1 (ev env x)).map (·, s) := by
  simp only [opA, tkB, eszB, zeroB8, Option.bind_some, List.map_cons, List.map_nil]
  rfl
theorem opA_lit2 : opA Try.prog cfg5 call q ⟨d, .buildSlice 22 2 #[(0, x), (1, y)], ty, pos, af, g⟩ t env s = (lit2 (ev env x) (ev env y)).map (·, s) := by
  simp only [opA, tkB, eszB, zeroB8, Option.bind_some, List.map_cons, List.map_nil]
  rfl
theorem opA_lit3 : opA Try.prog cfg5 call q ⟨d, .buildSlice 22 3 #[(0, x), (1, y), (2, z)], ty, pos, af, g⟩ t env s = (lit3 (ev env x) (ev env y) (ev env z)).map (·, s) := by
  simp only [opA, tkB, eszB, zeroB8, Option.bind_some, List.map_cons, List.map_nil]
  rfl
theorem opA_lit4 : opA Try.prog cfg5 call q ⟨d, .buildSlice 22 4 #[(0, x), (1, y), (2, z), (3, w)], ty, pos, af, g⟩ t env s = (lit4 (ev env x) (ev env y) (ev env z) (ev env w)).map (·, s) := by
  simp only [opA, tkB, eszB, zeroB8, Option.bind_some, List.map_cons, List.map_nil]
  rfl
end
theorem lit1_b (a : Int) : lit1 (.int .u8 a) = some (.sl [.int .u8 a] 1 .tight) := rfl
theorem lit2_b (a b : Int) : lit2 (.int .u8 a) (.int .u8 b) = some (.sl [.int .u8 a, .int .u8 b] 2 .tight) := rfl
theorem lit3_b (a b c : Int) : lit3 (.int .u8 a) (.int .u8 b) (.int .u8 c) = some (.sl [.int .u8 a, .int .u8 b, .int .u8 c] 3 .tight) := rfl
theorem lit4_b (a b c d : Int) : lit4 (.int .u8 a) (.int .u8 b) (.int .u8 c) (.int .u8 d) = some (.sl [.int .u8 a, .int .u8 b, .int .u8 c, .int .u8 d] 4 .tight) := rfl
theorem linPut : cfg5.lin 47 0 = true := by rw [lin5]; rfl
theorem linWord : cfg5.lin 49 0 = true := by rw [lin5]; rfl
theorem linNumber : cfg5.lin 46 0 = true := by rw [lin5]; rfl
theorem linTerm1 : cfg5.lin 28 0 = true := by rw [lin5]; rfl
theorem linList : cfg5.lin 48 0 = true := by rw [lin5]; rfl
theorem Bs.put {n d : Nat} {st : St} {p : Nat} {x : AV} {bs : List UInt8} (h : Bs st p x bs) (b : List UInt8) (g : Grip) (hg : isTree (.sl (cellsOfBytes b) b.length g) = true) (hl : bs.length + b.length ≤ 1000000000000) (D : Nat) :
    ∃ st' t', callA cfg5 (evalFn Try.prog cfg5 n (d+1)) D st 47 [x, .sl (cellsOfBytes b) b.length g] = some (.sl (cellsOfBytes (bs ++ b)) (bs ++ b).length (.tok D t'), st') ∧ st' D = ⟨t', .tok 1⟩ ∧ ∀ q, q ≠ D → q ≠ p → st' q = st q :=
  h.call linPut [.sl (cellsOfBytes b) b.length g] (by simp only [List.all_cons, hg, List.all_nil, Bool.and_self]) (bs ++ b) (fun a ha => put_eq n d ha b g (by cases g <;> first | rfl | cases hg) hl) D
theorem i_shrY (P : Program) (t : TypeId) (a : Int) (k : IntKind) (K : Nat) (hK : K ≤ 64) : binA P .shr t (.int .i64 a) (.int k (K : Int)) = some (.int .i64 (a.fdiv (2 ^ K))) := by
  have hm : min ((K : Int).toNat) 64 = K := by omega
  simp only [binA, shA, IntKind.bits]
  rw [if_neg (by omega)]
  simp only [hm]
theorem be_shr (v : Int) (K : Nat) : v.fdiv (2 ^ K) = v / 2 ^ K := Int.fdiv_eq_ediv_of_nonneg _ (by exact Int.le_of_lt (Int.pow_pos (by decide)))
set_option maxHeartbeats 4000000 in
theorem ewrd_eq (n d : Nat) {a : Arg} {bs : List UInt8} (ha : Base a bs) (v : Int) (hl : bs.length + 4 ≤ 1000000000000) :
    evalFn Try.prog cfg5 n (d+2) 49 [a, .tree (.int .i64 v)] = some (.tok (cellsOfBytes (bs ++ be32 v)) (bs ++ be32 v).length 1, [[], []]) := by
  rw [evalFn_go _ Try.func49 (by unfold Try.f49; rfl) (by unfold Try.f49; decide) (Nat.le_of_ble_eq_true (by unfold Try.f49; rfl)) (by kernel_rfl)]
  have hB := ha.start [.tree (.int .i64 v)]
  have e1 : env0 [a, .tree (.int .i64 v)] 1 = .int .i64 v := rfl
  generalize env0 [a, .tree (.int .i64 v)] = env at hB e1
  generalize st0 [a, .tree (.int .i64 v)] = st at hB
  generalize e0 : env 0 = x at hB
  obtain ⟨st', t', c1, c2, c3⟩ := hB.put (n := n) (d := d) (be32 v) .tight rfl hl 18
  have s1 : binA Try.prog .shr 3 (.int .i64 v) (.int .u64 24) = some (.int .i64 (v / 2 ^ 24)) := by rw [← be_shr]; exact i_shrY Try.prog 3 v .u64 24 (by decide)
  have s2 : binA Try.prog .shr 3 (.int .i64 v) (.int .u64 16) = some (.int .i64 (v / 2 ^ 16)) := by rw [← be_shr]; exact i_shrY Try.prog 3 v .u64 16 (by decide)
  have s3 : binA Try.prog .shr 3 (.int .i64 v) (.int .u64 8) = some (.int .i64 (v / 2 ^ 8)) := by rw [← be_shr]; exact i_shrY Try.prog 3 v .u64 8 (by decide)
  have c1 : callA cfg5 (evalFn Try.prog cfg5 n (d+1)) 18 st 47 [x, .sl [.int .u8 ((u8 (v / 2 ^ 24)).toNat : Int), .int .u8 ((u8 (v / 2 ^ 16)).toNat : Int), .int .u8 ((u8 (v / 2 ^ 8)).toNat : Int), .int .u8 ((u8 v).toNat : Int)] 4 .tight] = some (.sl (cellsOfBytes (bs ++ be32 v)) (bs ++ be32 v).length (.tok 18 t'), st') := c1
  simp only [simB, keep5, Nat.reduceBEq, own5, String.reduceAppend, String.reduceBEq, Bool.or_false, Bool.or_true, Bool.or_self, ↓reduceIte, Nat.reduceEqDiff, Nat.reduceAdd, simL, simN, Nat.zero_add, e0, e1, s1, s2, s3, conv3_5b, opA_lit4, lit4_b, c1]
  exact finish_Bs ha [.int .i64 v] _ rfl _ 18 t' _ _ _ (by simp only [zfk, ↓reduceIte, Nat.reduceEqDiff]; try rfl) c2
end Go.Ab

/- A number's bytes put behind others (CFG5). Conditions: a number that may be; lengths in range. -/
namespace Go.Ab
open Go.Proofs
set_option maxRecDepth 100000
set_option linter.unusedSimpArgs false

section
variable (P : Program) (t : TypeId)
theorem y_geq (x y : Int) : binA P .geq t (.int .i64 x) (.int .i64 y) = some (.bool (decide (x ≥ y))) := rfl
theorem y_leq (x y : Int) : binA P .leq t (.int .i64 x) (.int .i64 y) = some (.bool (decide (x ≤ y))) := rfl
theorem y_gtr (x y : Int) : binA P .gtr t (.int .i64 x) (.int .i64 y) = some (.bool (decide (x > y))) := rfl
theorem y_lss (x y : Int) : binA P .lss t (.int .i64 x) (.int .i64 y) = some (.bool (decide (x < y))) := rfl
theorem y_neq (x y : Int) : binA P .neq t (.int .i64 x) (.int .i64 y) = some (.bool (x != y)) := rfl
theorem y_eql (x y : Int) : binA P .eql t (.int .i64 x) (.int .i64 y) = some (.bool (x == y)) := rfl
end
theorem chkN_abs {b : Bool} {l : List Nat} (h : chkN b l = true) : (numZ b l).natAbs = val l := by
  unfold numZ
  rw [if_pos h]
  split
  · rw [Int.natAbs_neg, Int.natAbs_natCast]
  · rw [Int.natAbs_natCast]
theorem blen_leY (v k : Nat) (h : v < 2 ^ k) : blen v ≤ k := by
  unfold blen
  split
  · omega
  · rename_i h0
    have := (Nat.log2_lt h0).2 h
    omega
theorem limbs_bits {l : List Nat} (hl : Limbs l) : blen (val l) ≤ 32 * l.length := by
  refine blen_leY _ _ ?_
  have h := val_lt l hl
  have e : B ^ l.length = 2 ^ (32 * l.length) := by
    rw [Nat.pow_mul]
  rw [← e]; exact h
theorem intZ_Y (z : Int) : intZ z = .tup [.int .i64 (if isI64 z = true then z else 0), .bool (isI64 z)] := by
  unfold intZ
  cases isI64 z <;> rfl
theorem sh24Y : shOf Try.prog 25 = some (true, 2) := by kernel_rfl
theorem ldR24 (s : St) (x y : AV) : loadA Try.prog 25 s (.rptr [x, y]) = some (.agg [x, y]) := by
  simp only [loadA, partA, sh24Y]; rfl
theorem faR24_0 (s : St) (xs : List AV) : fieldAddrA Try.prog 25 s (.rptr xs) 0 = some (.rptr xs) := by
  simp only [fieldAddrA, fd24_0, esz4, List.drop_zero]
theorem faR24_1 (s : St) (x y : AV) : fieldAddrA Try.prog 25 s (.rptr [x, y]) 1 = some (.rptr [y]) := by
  simp only [fieldAddrA, fd24_1, esz22]; rfl
theorem ldRb (s : St) (b : Bool) (r : List AV) : loadA Try.prog 4 s (.rptr (.bool b :: r)) = some (.bool b) := by
  simp only [loadA, partA, sh4]; rfl
theorem ldRl (s : St) (x : AV) : loadA Try.prog 23 s (.rptr [x]) = some x := by
  simp only [loadA, partA, sh22]; rfl
theorem boxT_agg (s : St) (xs : List AV) : boxT s (.agg xs) = some (.rptr xs, s) := rfl
theorem limBs_succ (l : List Nat) (k : Nat) : limBs l (k + 1) = limBs l k ++ [limB l k] := by
  simp only [limBs, List.range_succ, List.map_append, List.map_cons, List.map_nil]
theorem limBs_len (l : List Nat) (k : Nat) : (limBs l k).length = k := by simp only [limBs, List.length_map, List.length_range]
theorem Bs.word {n d : Nat} {st : St} {p : Nat} {x : AV} {bs : List UInt8} (h : Bs st p x bs) (v : Int) (hl : bs.length + 4 ≤ 1000000000000) (D : Nat) :
    ∃ st' t', callA cfg5 (evalFn Try.prog cfg5 n (d+2)) D st 49 [x, .int .i64 v] = some (.sl (cellsOfBytes (bs ++ be32 v)) (bs ++ be32 v).length (.tok D t'), st') ∧ st' D = ⟨t', .tok 1⟩ ∧ ∀ q, q ≠ D → q ≠ p → st' q = st q :=
  h.call linWord [.int .i64 v] rfl (bs ++ be32 v) (fun _ ha => ewrd_eq n d ha v hl) D
theorem Bs.tok {st : St} {p t : Nat} {bs : List UInt8} (h : st p = ⟨t, .tok 1⟩) : Bs st p (.sl (cellsOfBytes bs) bs.length (.tok p t)) bs := .inr ⟨t, rfl, h⟩
noncomputable def nuC : Code := (Try.f46.body).getD .skip
noncomputable def nu1 : Code := seqR nuC
noncomputable def nu2 : Code := seqR nu1
noncomputable def nu3 : Code := seqR nu2
set_option maxHeartbeats 16000000 in
theorem nu3_eq (n d : Nat) {a : Arg} {bs : List UInt8} (ha : Base a bs) (b : Bool) (g : Gk) (l : List Nat) (hL : Limbs l) (hc : chkN b l = true) (hl : bs.length + 100 ≤ 1000000000000) (hn : 100 ≤ n) (K : Kont)
    (hK : ∀ env s, K .ret env s = finishP Try.prog true (a :: [encA b g l].map .tree) #[.tmp 4] env s) (env : Env) (st : St) (x : AV) (e0 : env 0 = x) (e3 : env 3 = .rptr [.bool b, encL g l]) (hB : Bs st 0 x bs) :
    den Try.prog cfg5 (evalFn Try.prog cfg5 n (d+2)) n nu3 K env st = some (.tok (cellsOfBytes (bs ++ (110 :: u8 ((blen (numZ b l).natAbs + 7) / 8 : Nat) :: (if b then 1 else 0) :: limBs l ((blen (numZ b l).natAbs + 7) / 8)))) (bs ++ (110 :: u8 ((blen (numZ b l).natAbs + 7) / 8 : Nat) :: (if b then 1 else 0) :: limBs l ((blen (numZ b l).natAbs + 7) / 8))).length 1, [[], []]) := by
  have cb := fun D s => callA_trees (cfg := cfg5) (d := D) (s := s) (f := 23) (vs := [encA b g l]) rfl (ev5 (n := n) (d := d+1) rfl (bits_eq 9223372036854775808 6187 (by decide) (isN_A b g l hL)))
  simp only [encA] at cb
  have hbl : blen (numZ b l).natAbs ≤ 384 := by
    have h1 := limbs_bits hL
    rw [chkN_abs hc]
    have h2 : l.length ≤ 12 := by
      simp only [chkN, Bool.and_eq_true, decide_eq_true_eq] at hc
      exact hc.1
    omega
  have hbl2 : blen (numZ b l).natAbs ≤ 32 * l.length := by rw [chkN_abs hc]; exact limbs_bits hL
  obtain ⟨w, hw⟩ : ∃ w, blen (numZ b l).natAbs = w := ⟨_, rfl⟩
  rw [hw] at cb hbl hbl2
  rw [hw]
  have f1 := i_add Try.prog 3 (w : Int) 7 (by omega) (by omega)
  have f2 : binA Try.prog .quo 3 (.int .i64 ((w : Int) + 7)) (.int .i64 8) = some (.int .i64 (((w + 7) / 8 : Nat) : Int)) := i_quo Try.prog 3 (w + 7) 8 (by decide) (by omega)
  obtain ⟨k, hk⟩ : ∃ k, (w + 7) / 8 = k := ⟨_, rfl⟩
  rw [hk] at f2
  rw [hk]
  have hk48 : k ≤ 48 := by omega
  have hkl : k ≤ 4 * l.length := by omega
  obtain ⟨st', t', c1, c2, c3⟩ := hB.put (n := n) (d := d+1) [110, u8 (k : Int), if b then 1 else 0] .tight rfl (by simp only [List.length_cons, List.length_nil]; omega) 56
  have c1 : callA cfg5 (evalFn Try.prog cfg5 n (d+2)) 56 st 47 [x, .sl [.int .u8 110, .int .u8 ((u8 (k : Int)).toNat : Int), .int .u8 (if b then 1 else 0)] 3 .tight] = some (.sl (cellsOfBytes (bs ++ [110, u8 (k : Int), if b then 1 else 0])) (bs ++ [110, u8 (k : Int), if b then 1 else 0]).length (.tok 56 t'), st') := by
    cases b <;> exact c1
  obtain ⟨hd, hhd⟩ : ∃ hd, bs ++ [110, u8 (k : Int), if b then 1 else 0] = hd := ⟨_, rfl⟩
  have hhl : hd.length = bs.length + 3 := by rw [← hhd, List.length_append]; rfl
  have hfin : bs ++ (110 :: u8 (k : Int) :: (if b then 1 else 0) :: limBs l k) = hd ++ limBs l k := by rw [← hhd, List.append_assoc]; rfl
  rw [hfin]
  rw [hhd] at c1
  have nuI : ∀ (i : Nat), i < k → i / 4 < l.length := fun i hi => by omega
  cases b
  all_goals
    simp only [nu3, nu2, nu1, nuC, seqR, Try.f46, Option.getD_some, simB, keep5, Nat.reduceBEq, own5, String.reduceAppend, String.reduceBEq, Bool.or_false, Bool.or_true, Bool.or_self, ↓reduceIte, Nat.reduceEqDiff, Nat.reduceAdd, simA, simL, simN, Nat.zero_add, e0, e3, ldR24, cb, f1, f2, faR24_0, ldRb, conv3_5b, opA_lit3, lit3_b]
    simp only [Bool.false_eq_true, ↓reduceIte] at c1
    simp only [simB, keep5, Nat.reduceBEq, own5, String.reduceAppend, String.reduceBEq, Bool.or_false, Bool.or_true, Bool.or_self, ↓reduceIte, Nat.reduceEqDiff, Nat.reduceAdd, simA, c1, den_loop]
    refine loop_ends (X := Nat) (fun i env s => env 57 = .int .i64 (k : Int) ∧ env 58 = .int .i64 (i : Int) ∧ env 3 = .rptr [.bool _, encL g l] ∧ i ≤ k ∧ ∃ p t, env 0 = .sl (cellsOfBytes (hd ++ limBs l i)) (hd ++ limBs l i).length (.tok p t) ∧ s p = ⟨t, .tok 1⟩) (fun i => k - i) (fun _ => (.tok (cellsOfBytes (hd ++ limBs l k)) (hd ++ limBs l k).length 1, [[], []])) ?_ n 0 _ _ (by omega) ⟨(by simp only [zfk, ↓reduceIte, Nat.reduceEqDiff]; try rfl), (by simp only [zfk, ↓reduceIte, Nat.reduceEqDiff]; try rfl), (by simp only [zfk, ↓reduceIte, Nat.reduceEqDiff, e3]; try rfl), Nat.zero_le _, 56, t', ?_, c2⟩
    rotate_left
    · have h0 : hd ++ limBs l 0 = hd := List.append_nil hd
      rw [h0]
      exact (by simp only [zfk, ↓reduceIte, Nat.reduceEqDiff]; try rfl)
    rintro rd i hrd ih env1 s1 ⟨e57, e58, e3', hik, p, t1, e0', hp1⟩
    have hBi := Bs.tok (bs := hd ++ limBs l i) hp1
    by_cases hlt : i < k
    · have q1 : (i : Int) < (k : Int) := by omega
      have hi4 := nuI i hlt
      have g1 : binA Try.prog .quo 3 (.int .i64 (i : Int)) (.int .i64 4) = some (.int .i64 ((i / 4 : Nat) : Int)) := i_quo Try.prog 3 i 4 (by decide) (by omega)
      have g2 : binA Try.prog .rem 3 (.int .i64 (i : Int)) (.int .i64 4) = some (.int .i64 ((i % 4 : Nat) : Int)) := i_rem Try.prog 3 i 4 (by decide)
      have g3 := i_mul Try.prog 3 8 ((i % 4 : Nat) : Int) (by omega) (by omega)
      have g4 := s_shr Try.prog 56 (l.getD (i / 4) 0) .i64 (8 * ((i % 4 : Nat) : Int)) (by omega) (by omega)
      rw [show (8 * ((i % 4 : Nat) : Int)).toNat = 8 * (i % 4) by omega] at g4
      have g5 := fun s => conv31_5b s (l.getD (i / 4) 0 / 2 ^ (8 * (i % 4)))
      have g6 := fun s => ia22 s g l .i64 ((i / 4 : Nat) : Int) (by omega) (by omega)
      simp only [Int.toNat_natCast] at g6
      have g7 := fun s => ld31 s l (i / 4) hi4
      have g8 := i_add Try.prog 3 (i : Int) 1 (by omega) (by omega)
      obtain ⟨s2, t2, d1, d2, d3⟩ := hBi.put (n := n) (d := d+1) [limB l i] .tight rfl (by simp only [List.length_append, limBs_len, List.length_cons, List.length_nil]; omega) 74
      have d1 : callA cfg5 (evalFn Try.prog cfg5 n (d+2)) 74 s1 47 [.sl (cellsOfBytes (hd ++ limBs l i)) (hd ++ limBs l i).length (.tok p t1), .sl [.int .u8 ((UInt8.ofNat (l.getD (i / 4) 0 / 2 ^ (8 * (i % 4)) % 256)).toNat : Int)] 1 .tight] = some (.sl (cellsOfBytes (hd ++ limBs l i ++ [limB l i])) (hd ++ limBs l i ++ [limB l i]).length (.tok 74 t2), s2) := d1
      have e4 : hd ++ limBs l i ++ [limB l i] = hd ++ limBs l (i + 1) := by rw [limBs_succ, List.append_assoc]
      rw [e4] at d1
      simp only [simB, keep5, Nat.reduceBEq, own5, String.reduceAppend, String.reduceBEq, Bool.or_false, Bool.or_true, Bool.or_self, ↓reduceIte, Nat.reduceEqDiff, Nat.reduceAdd, simA, simL, simN, Nat.zero_add, y_lss, e57, e58, e3', e0', q1, faR24_1, ldRl, g1, g2, g3, g4, g5, g6, g7, g8, opA_lit1, lit1_b, d1]
      exact ih (i + 1) _ _ (by omega) rfl ⟨(by simp only [zfk, ↓reduceIte, Nat.reduceEqDiff, e57]; try rfl), (by simp only [zfk, ↓reduceIte, Nat.reduceEqDiff]; try rfl), (by simp only [zfk, ↓reduceIte, Nat.reduceEqDiff, e3']; try rfl), by omega, 74, t2, (by simp only [zfk, ↓reduceIte, Nat.reduceEqDiff]; try rfl), d2⟩
    · have hie : i = k := by omega
      subst hie
      have q1 : ¬ (i : Int) < (i : Int) := by omega
      simp only [simB, keep5, Nat.reduceBEq, own5, String.reduceAppend, String.reduceBEq, Bool.or_false, Bool.or_true, Bool.or_self, ↓reduceIte, Nat.reduceEqDiff, Nat.reduceAdd, simA, simL, simN, Nat.zero_add, y_lss, e57, e58, e0', q1, hK]
      exact finish_Bs ha [_] true rfl 4 p t1 _ _ _ (by simp only [zfk, ↓reduceIte, Nat.reduceEqDiff]; try rfl) hp1
set_option maxHeartbeats 16000000 in
theorem enum_eq (n d : Nat) {a : Arg} {bs : List UInt8} (ha : Base a bs) (b : Bool) (g : Gk) (l : List Nat) (hL : Limbs l) (hcc : chkN b l = true) (hl : bs.length + 100 ≤ 1000000000000) (hn : 100 ≤ n) :
    evalFn Try.prog cfg5 n (d+3) 46 [a, .tree (encA b g l)] = some (.tok (cellsOfBytes (bs ++ numB b l)) (bs ++ numB b l).length 1, [[], []]) := by
  rw [evalFn_go _ Try.func46 (by unfold Try.f46; rfl) (by unfold Try.f46; decide) (Nat.le_of_ble_eq_true (by unfold Try.f46; rfl)) (by kernel_rfl)]
  have hB := ha.start [.tree (encA b g l)]
  have e1 : env0 [a, .tree (encA b g l)] 1 = .agg [.bool b, encL g l] := rfl
  generalize env0 [a, .tree (encA b g l)] = env at hB e1
  generalize st0 [a, .tree (encA b g l)] = st at hB
  generalize e0 : env 0 = x at hB
  have ci := fun D s => callA_trees (cfg := cfg5) (d := D) (s := s) (f := 24) (vs := [encA b g l]) rfl (ev5 (n := n) (d := d+1) rfl (int_eq 9223372036854775808 6187 (by decide) (isN_A b g l hL)))
  rw [intZ_Y] at ci
  simp only [encA] at ci
  obtain ⟨z, hz⟩ : ∃ z, numZ b l = z := ⟨_, rfl⟩
  rw [hz] at ci
  have hnB : numB b l = if 0 ≤ z ∧ z ≤ 255 then [97, u8 z] else if -2147483648 ≤ z ∧ z ≤ 2147483647 then 98 :: be32 z else 110 :: u8 ((blen z.natAbs + 7) / 8 : Nat) :: (if b then 1 else 0) :: limBs l ((blen z.natAbs + 7) / 8) := by
    rw [numB, hz]
  by_cases h1 : 0 ≤ z ∧ z ≤ 255
  · have hi : isI64 z = true := by unfold isI64; rw [Bool.and_eq_true, decide_eq_true_eq, decide_eq_true_eq]; omega
    rw [hi] at ci
    rw [hnB, if_pos h1]
    have q1 : z ≥ 0 := h1.1
    have q2 : z ≤ 255 := h1.2
    obtain ⟨st', t', c1, c2, c3⟩ := hB.put (n := n) (d := d+1) [97, u8 z] .tight rfl (by simp only [List.length_cons, List.length_nil]; omega) 29
    have c1 : callA cfg5 (evalFn Try.prog cfg5 n (d+2)) 29 st 47 [x, .sl [.int .u8 97, .int .u8 ((u8 z).toNat : Int)] 2 .tight] = some (.sl (cellsOfBytes (bs ++ [97, u8 z])) (bs ++ [97, u8 z]).length (.tok 29 t'), st') := c1
    simp only [simB, keep5, Nat.reduceBEq, own5, String.reduceAppend, String.reduceBEq, Bool.or_false, Bool.or_true, Bool.or_self, ↓reduceIte, Nat.reduceEqDiff, Nat.reduceAdd, simA, simL, simN, Nat.zero_add, e0, e1, boxT_agg, ldR24, ci, zdu, y_geq, y_leq, q1, q2, conv3_5b, opA_lit2, lit2_b, c1]
    exact finish_Bs ha [encA b g l] _ rfl _ 29 t' _ _ _ (by simp only [zfk, ↓reduceIte, Nat.reduceEqDiff]; try rfl) c2
  by_cases h2 : -2147483648 ≤ z ∧ z ≤ 2147483647
  · have hi : isI64 z = true := by unfold isI64; rw [Bool.and_eq_true, decide_eq_true_eq, decide_eq_true_eq]; omega
    rw [hi] at ci
    rw [hnB, if_neg h1, if_pos h2]
    have q3 : z ≥ -2147483648 := h2.1
    have q4 : z ≤ 2147483647 := h2.2
    obtain ⟨st', t', c1, c2, c3⟩ := hB.put (n := n) (d := d+1) [98] .tight rfl (by simp only [List.length_cons, List.length_nil]; omega) 42
    have c1 : callA cfg5 (evalFn Try.prog cfg5 n (d+2)) 42 st 47 [x, .sl [.int .u8 98] 1 .tight] = some (.sl (cellsOfBytes (bs ++ [98])) (bs ++ [98]).length (.tok 42 t'), st') := c1
    obtain ⟨st2, t2, d1, d2, d3⟩ := (Bs.tok (bs := bs ++ [98]) c2).word (n := n) (d := d) z (by simp only [List.length_append, List.length_cons, List.length_nil]; omega) 44
    have e3 : bs ++ [98] ++ be32 z = bs ++ 98 :: be32 z := by rw [List.append_assoc]; rfl
    rw [e3] at d1
    by_cases q1 : z ≥ 0
    · have q2 : ¬ z ≤ 255 := fun h => h1 ⟨q1, h⟩
      simp only [simB, keep5, Nat.reduceBEq, own5, String.reduceAppend, String.reduceBEq, Bool.or_false, Bool.or_true, Bool.or_self, ↓reduceIte, Nat.reduceEqDiff, Nat.reduceAdd, simA, simL, simN, Nat.zero_add, e0, e1, boxT_agg, ldR24, ci, zdu, y_geq, y_leq, q1, q2, q3, q4, conv3_5b, opA_lit1, lit1_b, c1, d1]
      exact finish_Bs ha [encA b g l] _ rfl _ 44 t2 _ _ _ (by simp only [zfk, ↓reduceIte, Nat.reduceEqDiff]; try rfl) d2
    · simp only [simB, keep5, Nat.reduceBEq, own5, String.reduceAppend, String.reduceBEq, Bool.or_false, Bool.or_true, Bool.or_self, ↓reduceIte, Nat.reduceEqDiff, Nat.reduceAdd, simA, simL, simN, Nat.zero_add, e0, e1, boxT_agg, ldR24, ci, zdu, y_geq, y_leq, q1, q3, q4, conv3_5b, opA_lit1, lit1_b, c1, d1]
      exact finish_Bs ha [encA b g l] _ rfl _ 44 t2 _ _ _ (by simp only [zfk, ↓reduceIte, Nat.reduceEqDiff]; try rfl) d2
  have hc : nuC = .seq (seqL nuC) (.seq (seqL nu1) (.seq (seqL nu2) nu3)) := rfl
  rw [hnB, if_neg h1, if_neg h2, ← hz]
  show den _ _ _ _ nuC _ _ _ = _
  rw [hc]
  by_cases hi : isI64 z = true
  · rw [hi] at ci
    unfold isI64 at hi
    rw [Bool.and_eq_true, decide_eq_true_eq, decide_eq_true_eq] at hi
    by_cases q1 : z ≥ 0
    · have q2 : ¬ z ≤ 255 := by omega
      have q3 : z ≥ -2147483648 := by omega
      have q4 : ¬ z ≤ 2147483647 := by omega
      simp only [seqL, nu2, nu1, nuC, seqR, Try.f46, Option.getD_some, simB, keep5, Nat.reduceBEq, own5, String.reduceAppend, String.reduceBEq, Bool.or_false, Bool.or_true, Bool.or_self, ↓reduceIte, Nat.reduceEqDiff, Nat.reduceAdd, simA, simL, simN, Nat.zero_add, e0, e1, boxT_agg, ldR24, ci, zdu, y_geq, y_leq, q1, q2, q3, q4]
      exact nu3_eq n d ha b g l hL hcc hl hn _ (fun _ _ => rfl) _ _ x (by simp only [zfk, ↓reduceIte, Nat.reduceEqDiff, e0]; try rfl) (by simp only [zfk, ↓reduceIte, Nat.reduceEqDiff]; try rfl) hB
    · have q3 : ¬ z ≥ -2147483648 := by omega
      simp only [seqL, nu2, nu1, nuC, seqR, Try.f46, Option.getD_some, simB, keep5, Nat.reduceBEq, own5, String.reduceAppend, String.reduceBEq, Bool.or_false, Bool.or_true, Bool.or_self, ↓reduceIte, Nat.reduceEqDiff, Nat.reduceAdd, simA, simL, simN, Nat.zero_add, e0, e1, boxT_agg, ldR24, ci, zdu, y_geq, y_leq, q1, q3]
      exact nu3_eq n d ha b g l hL hcc hl hn _ (fun _ _ => rfl) _ _ x (by simp only [zfk, ↓reduceIte, Nat.reduceEqDiff, e0]; try rfl) (by simp only [zfk, ↓reduceIte, Nat.reduceEqDiff]; try rfl) hB
  · have hi : isI64 z = false := by simpa using hi
    rw [hi] at ci
    simp only [seqL, nu2, nu1, nuC, seqR, Try.f46, Option.getD_some, simB, keep5, Nat.reduceBEq, own5, String.reduceAppend, String.reduceBEq, Bool.or_false, Bool.or_true, Bool.or_self, ↓reduceIte, Nat.reduceEqDiff, Nat.reduceAdd, simA, simL, simN, Nat.zero_add, e0, e1, boxT_agg, ldR24, ci, zdu, y_geq, y_leq]
    exact nu3_eq n d ha b g l hL hcc hl hn _ (fun _ _ => rfl) _ _ x (by simp only [zfk, ↓reduceIte, Nat.reduceEqDiff, e0]; try rfl) (by simp only [zfk, ↓reduceIte, Nat.reduceEqDiff]; try rfl) hB
end Go.Ab
