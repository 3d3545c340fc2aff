/- Lists of limbs as trees, and the operations upon them. Conditions: lengths and places in range. -/
import Derived.Test.YtlmffjpfjbhliaaAbS1
import Derived.Test.YtlmffjpfjbhliaaProg
import Derived.KernelRfl
namespace Go.Ab
open Go.Proofs
def cfg0 : Cfg := ⟨fun _ _ => false, fun f => f == 12⟩
def encC (l : List Nat) : List AV := l.map fun (x : Nat) => .int .u32 (x : Int)
def gr (b : Bool) : Grip := if b then .tight else .loose
def encL (b : Bool) (l : List Nat) : AV := .sl (encC l) l.length (gr b)
theorem encC_len (l : List Nat) : (encC l).length = l.length := by simp [encC]
theorem encC_app (l m : List Nat) : encC (l ++ m) = encC l ++ encC m := by simp [encC]
theorem encC_get (l : List Nat) (i : Nat) (h : i < l.length) : (encC l)[i]? = some (.int .u32 ((l.getD i 0 : Nat) : Int)) := by
  simp [encC, List.getD, List.getElem?_eq_getElem h]
theorem encC_drop (l : List Nat) (i : Nat) : (encC l).drop i = encC (l.drop i) := by simp [encC]
theorem encC_take (l : List Nat) (i : Nat) : (encC l).take i = encC (l.take i) := by simp [encC]
theorem encC_set (l : List Nat) (i x : Nat) : (encC l).set i (.int .u32 (x : Int)) = encC (l.set i x) := by simp [encC, List.map_set]

theorem tk3 : tkOf Try.prog 3 = .int .i64 := by kernel_rfl
theorem tk4 : tkOf Try.prog 4 = .bool := by kernel_rfl
theorem tk22 : tkOf Try.prog 22 = .sl 31 := by kernel_rfl
theorem tk31 : tkOf Try.prog 31 = .int .u32 := by kernel_rfl
theorem tk40 : tkOf Try.prog 40 = .int .u64 := by kernel_rfl
theorem esz31 : esz Try.prog 31 = some 1 := by kernel_rfl
theorem by31 : byOf Try.prog 31 = 4 := by kernel_rfl
theorem sh31 : shOf Try.prog 31 = some (false, 1) := by kernel_rfl
theorem zero31 : zeroOf Try.prog 31 = some [.int .u32 0] := by kernel_rfl

/-! ### Operations on lists of limbs -/
theorem len22 (s : St) (b : Bool) (l : List Nat) : lenA Try.prog 22 s (encL b l) = some (.int .i64 (l.length : Int)) := by
  simp only [lenA, tk22, encL]
theorem lenN22 (s : St) (g : Grip) (xs : List AV) (n : Nat) : lenA Try.prog 22 s (.sl xs n g) = some (.int .i64 (n : Int)) := by
  simp only [lenA, tk22]
theorem ia22 (s : St) (b : Bool) (l : List Nat) (k : IntKind) (i : Int) (h0 : 0 ≤ i) (h : i < l.length) : indexAddrA Try.prog 22 s (encL b l) (.int k i) = some (.rptr (encC (l.drop i.toNat))) := by
  simp only [indexAddrA, tk22, encL, esz31, Option.bind_some, h0, h, and_self, if_true, Nat.mul_one, encC_drop]
theorem ld31 (s : St) (l : List Nat) (i : Nat) (h : i < l.length) : loadA Try.prog 31 s (.rptr (encC (l.drop i))) = some (.int .u32 ((l.getD i 0 : Nat) : Int)) := by
  simp only [loadA, partA, sh31]
  rw [encC_get _ _ (by simp; omega)]
  simp [List.getD, List.getElem?_drop]
theorem conv31_40 (s : St) (x : Nat) (h : x < 4294967296) : convA Try.prog 31 40 s (.int .u32 (x : Int)) = some (.int .u64 (x : Int)) := by
  simp only [convA, tk31, tk40, IntKind.wrap, IntKind.bits, IntKind.signed]
  congr 2
  simp; omega
theorem conv40_31 (s : St) (x : Nat) : convA Try.prog 40 31 s (.int .u64 (x : Int)) = some (.int .u32 ((x % 4294967296 : Nat) : Int)) := by
  simp only [convA, tk31, tk40, IntKind.wrap, IntKind.bits, IntKind.signed]
  congr 2

/-! ### Arithmetic -/
section
variable (P : Program) (t : TypeId)
theorem i64_wrap (a : Int) (h : -9223372036854775808 ≤ a) (h' : a ≤ 9223372036854775807) : IntKind.i64.wrap a = a := by
  simp [IntKind.wrap, IntKind.bits, IntKind.signed]
  split <;> omega
theorem i_add (a b : Int) (h : -9223372036854775808 ≤ a + b) (h' : a + b ≤ 9223372036854775807) : binA P .add t (.int .i64 a) (.int .i64 b) = some (.int .i64 (a + b)) := by
  simp [binA, intA, i64_wrap _ h h']
theorem i_sub (a b : Int) (h : -9223372036854775808 ≤ a - b) (h' : a - b ≤ 9223372036854775807) : binA P .sub t (.int .i64 a) (.int .i64 b) = some (.int .i64 (a - b)) := by
  simp [binA, intA, i64_wrap _ h h']
theorem i_mul (a b : Int) (h : -9223372036854775808 ≤ a * b) (h' : a * b ≤ 9223372036854775807) : binA P .mul t (.int .i64 a) (.int .i64 b) = some (.int .i64 (a * b)) := by
  simp [binA, intA, i64_wrap _ h h']
theorem k_lss (k : IntKind) (a b : Int) : binA P .lss t (.int k a) (.int k b) = some (.bool (decide (a < b))) := by simp [binA, intA]
theorem k_leq (k : IntKind) (a b : Int) : binA P .leq t (.int k a) (.int k b) = some (.bool (decide (a ≤ b))) := by simp [binA, intA]
theorem k_gtr (k : IntKind) (a b : Int) : binA P .gtr t (.int k a) (.int k b) = some (.bool (decide (a > b))) := by simp [binA, intA]
theorem k_geq (k : IntKind) (a b : Int) : binA P .geq t (.int k a) (.int k b) = some (.bool (decide (a ≥ b))) := by simp [binA, intA]
theorem k_eql (k : IntKind) (a b : Int) : binA P .eql t (.int k a) (.int k b) = some (.bool (a == b)) := by simp [binA, intA]
theorem k_neq (k : IntKind) (a b : Int) : binA P .neq t (.int k a) (.int k b) = some (.bool (a != b)) := by simp [binA, intA]
theorem u64_wrap (x : Nat) : IntKind.u64.wrap (x : Int) = ((x % 18446744073709551616 : Nat) : Int) := by
  simp [IntKind.wrap, IntKind.bits, IntKind.signed]
theorem u_add (a b : Nat) : binA P .add t (.int .u64 (a : Int)) (.int .u64 (b : Int)) = some (.int .u64 (((a + b) % 18446744073709551616 : Nat) : Int)) := by
  simp only [binA, intA, if_true, ← Int.natCast_add, u64_wrap]
theorem u_mul (a b : Nat) : binA P .mul t (.int .u64 (a : Int)) (.int .u64 (b : Int)) = some (.int .u64 (((a * b) % 18446744073709551616 : Nat) : Int)) := by
  simp only [binA, intA, if_true, ← Int.natCast_mul, u64_wrap]
theorem u_sub (a b : Nat) (h : b ≤ 18446744073709551616) : binA P .sub t (.int .u64 (a : Int)) (.int .u64 (b : Int)) = some (.int .u64 (((a + (18446744073709551616 - b)) % 18446744073709551616 : Nat) : Int)) := by
  simp only [binA, intA, if_true, IntKind.wrap, IntKind.bits, IntKind.signed]
  congr 2
  simp; omega
theorem u_shr (a : Nat) (k : IntKind) (z : Int) (h : 0 ≤ z) (h' : z ≤ 64) : binA P .shr t (.int .u64 (a : Int)) (.int k z) = some (.int .u64 ((a / 2 ^ z.toNat : Nat) : Int)) := by
  simp only [binA, shA, if_neg (Int.not_lt.mpr h), IntKind.bits]
  rw [Nat.min_eq_left (by omega)]
  congr 2
  rw [Int.fdiv_eq_ediv_of_nonneg _ (by exact Int.le_of_lt (Int.pow_pos (by decide)))]
  simp
theorem u_shl (a : Nat) (k : IntKind) (z : Int) (h : 0 ≤ z) (h' : z ≤ 64) : binA P .shl t (.int .u64 (a : Int)) (.int k z) = some (.int .u64 (((a * 2 ^ z.toNat) % 18446744073709551616 : Nat) : Int)) := by
  simp only [binA, shA, if_neg (Int.not_lt.mpr h), IntKind.bits]
  rw [Nat.min_eq_left (by omega), ← u64_wrap]
  congr 3
theorem u_or (a b : Nat) (h : a < 18446744073709551616) (h' : b < 18446744073709551616) : binA P .or t (.int .u64 (a : Int)) (.int .u64 (b : Int)) = some (.int .u64 (((a ||| b) : Nat) : Int)) := by
  have h1 : (BitVec.ofInt 64 (a : Int) ||| BitVec.ofInt 64 (b : Int)).toNat = a ||| b := by
    rw [BitVec.toNat_or, BitVec.ofInt_natCast, BitVec.ofInt_natCast, BitVec.toNat_ofNat, BitVec.toNat_ofNat, Nat.mod_eq_of_lt h, Nat.mod_eq_of_lt h']
  have := Nat.or_lt_two_pow (n := 64) h h'
  show some (AV.int .u64 (IntKind.u64.wrap ((BitVec.ofInt 64 (a : Int) ||| BitVec.ofInt 64 (b : Int)).toNat : Int))) = _
  rw [h1, u64_wrap, Nat.mod_eq_of_lt this]
end
end Go.Ab
