/- Terms as structs: their cells, read and written. No conditions. -/
import Derived.Test.YtaifnpbgamookaaDoorAbtA7
import Derived.Test.YtaifnpbgamookaaDoorAbtA9
namespace Go.Ab
open Go.Proofs
set_option maxRecDepth 100000
set_option linter.unusedSimpArgs false

theorem tkT : tkOf Tryd.prog 28 = .st := by kernel_rfl
theorem eszT : esz Tryd.prog 28 = some 6 := by kernel_rfl
theorem shT : shOf Tryd.prog 28 = some (true, 6) := by kernel_rfl
theorem zeroT : zeroOf Tryd.prog 28 = some [.int .i64 0, .bool false, .sl [] 0 .nil, .str [], .int .i64 0, .sl [] 0 .nil] := by kernel_rfl
theorem plT : placesA Tryd.prog 28 = some [(0, 1), (1, 2), (3, 1), (4, 1), (5, 1)] := by kernel_rfl
theorem fdT0 : fieldOf Tryd.prog 28 0 = some (3, 0) := by kernel_rfl
theorem fdT1 : fieldOf Tryd.prog 28 1 = some (25, 1) := by kernel_rfl
theorem fdT2 : fieldOf Tryd.prog 28 2 = some (9, 3) := by kernel_rfl
theorem fdT3 : fieldOf Tryd.prog 28 3 = some (3, 4) := by kernel_rfl
theorem fdT4 : fieldOf Tryd.prog 28 4 = some (26, 5) := by kernel_rfl
theorem eszTi : esz Tryd.prog 3 = some 1 := by kernel_rfl
theorem eszTs : esz Tryd.prog 9 = some 1 := by kernel_rfl
theorem eszTk : esz Tryd.prog 26 = some 1 := by kernel_rfl
theorem shTi : shOf Tryd.prog 3 = some (false, 1) := by kernel_rfl
theorem shTs : shOf Tryd.prog 9 = some (false, 1) := by kernel_rfl
theorem shTk : shOf Tryd.prog 26 = some (false, 1) := by kernel_rfl
theorem tkTk : tkOf Tryd.prog 26 = .sl 28 := by kernel_rfl
theorem faT_0 (s : St) (p k off : Nat) : fieldAddrA Tryd.prog 28 s (.ptr p k off) 0 = faE (s p) p k off := by
  simp only [fieldAddrA, fdT0, eszTi, live, cellsAt_E, faE, Nat.add_zero]
theorem faT_1 (s : St) (p k off : Nat) : fieldAddrA Tryd.prog 28 s (.ptr p k off) 1 = faE (s p) p k (off + 1) := by
  simp only [fieldAddrA, fdT1, esz24, live, cellsAt_E, faE]
theorem faT_2 (s : St) (p k off : Nat) : fieldAddrA Tryd.prog 28 s (.ptr p k off) 2 = faE (s p) p k (off + 3) := by
  simp only [fieldAddrA, fdT2, eszTs, live, cellsAt_E, faE]
theorem faT_3 (s : St) (p k off : Nat) : fieldAddrA Tryd.prog 28 s (.ptr p k off) 3 = faE (s p) p k (off + 4) := by
  simp only [fieldAddrA, fdT3, eszTi, live, cellsAt_E, faE]
theorem faT_4 (s : St) (p k off : Nat) : fieldAddrA Tryd.prog 28 s (.ptr p k off) 4 = faE (s p) p k (off + 5) := by
  simp only [fieldAddrA, fdT4, eszTk, live, cellsAt_E, faE]
section
variable (t k : Nat) (a b c d e f : AV)
theorem ldT_a : ldE Tryd.prog 28 ⟨t, .buf [a, b, c, d, e, f]⟩ k 0 = if t = k then some (.agg [a, b, c, d, e, f]) else none := by
  rw [ldE, cellsE_buf]
  by_cases h : t = k
  · simp [h, partA, shT]
  · simp [h]
theorem ldT_0 : ldE Tryd.prog 3 ⟨t, .buf [a, b, c, d, e, f]⟩ k 0 = if t = k then some a else none := by
  rw [ldE, cellsE_buf]
  by_cases h : t = k
  · simp [h, partA, shTi]
  · simp [h]
theorem ldT_1 : ldE Tryd.prog 25 ⟨t, .buf [a, b, c, d, e, f]⟩ k 1 = if t = k then some (.agg [b, c]) else none := by
  rw [ldE, cellsE_buf]
  by_cases h : t = k
  · simp [h, partA, sh24]
  · simp [h]
theorem ldT_2 : ldE Tryd.prog 9 ⟨t, .buf [a, b, c, d, e, f]⟩ k 3 = if t = k then some d else none := by
  rw [ldE, cellsE_buf]
  by_cases h : t = k
  · simp [h, partA, shTs]
  · simp [h]
theorem ldT_3 : ldE Tryd.prog 3 ⟨t, .buf [a, b, c, d, e, f]⟩ k 4 = if t = k then some e else none := by
  rw [ldE, cellsE_buf]
  by_cases h : t = k
  · simp [h, partA, shTi]
  · simp [h]
theorem ldT_4 : ldE Tryd.prog 26 ⟨t, .buf [a, b, c, d, e, f]⟩ k 5 = if t = k then some f else none := by
  rw [ldE, cellsE_buf]
  by_cases h : t = k
  · simp [h, partA, shTk]
  · simp [h]
end
/-- A struct put over another one. -/
def stT (e : Ent) (p k : Nat) (s : St) (ys : List AV) : Option St :=
  match e with | ⟨t', .buf xs⟩ => if t' = k then (if ys.length ≤ xs.length then some (upd s p ⟨t', .buf (splice xs 0 ys)⟩) else none) else none | _ => none
theorem st_T (s : St) (p k : Nat) (a b c d e f : AV) : storeA Tryd.prog 28 s (.ptr p k 0) (.agg [a, b, c, d, e, f]) = stT (s p) p k s [a, b, c, d, e, f] := by
  simp only [storeA, settle, Option.bind_some, stT]
  cases h : s p with
  | mk t c => cases c <;> simp [eszT]
theorem stT_buf (t k p : Nat) (s : St) (a b c d e f a' b' c' d' e' f' : AV) : stT ⟨t, .buf [a', b', c', d', e', f']⟩ p k s [a, b, c, d, e, f] = if t = k then some (upd s p ⟨t, .buf [a, b, c, d, e, f]⟩) else none := by
  simp [stT, splice]
/-! ### Terms put together -/
theorem bdT_ : buildA Tryd.prog 28 [] = some (.agg [.int .i64 0, .bool false, .sl [] 0 .nil, .str [], .int .i64 0, .sl [] 0 .nil]) := by
  simp only [buildA, zeroT, tkT, plT, Option.bind_some, fillA]; rfl
theorem bdT_0 (k : Int) : buildA Tryd.prog 28 [(0, .int .i64 k)] = some (.agg [.int .i64 k, .bool false, .sl [] 0 .nil, .str [], .int .i64 0, .sl [] 0 .nil]) := by
  simp only [buildA, zeroT, tkT, plT, Option.bind_some]; rfl
theorem bdT_1 (k : Int) (b : Bool) (g : Gk) (l : List Nat) : buildA Tryd.prog 28 [(0, .int .i64 k), (1, .agg [.bool b, encL g l])] = some (.agg [.int .i64 k, .bool b, encL g l, .str [], .int .i64 0, .sl [] 0 .nil]) := by
  simp only [buildA, zeroT, tkT, plT, Option.bind_some]; rfl
theorem bdT_2 (k : Int) (s : List UInt8) : buildA Tryd.prog 28 [(0, .int .i64 k), (2, .str s)] = some (.agg [.int .i64 k, .bool false, .sl [] 0 .nil, .str s, .int .i64 0, .sl [] 0 .nil]) := by
  simp only [buildA, zeroT, tkT, plT, Option.bind_some]; rfl
theorem bdT_3 (k n : Int) : buildA Tryd.prog 28 [(0, .int .i64 k), (3, .int .i64 n)] = some (.agg [.int .i64 k, .bool false, .sl [] 0 .nil, .str [], .int .i64 n, .sl [] 0 .nil]) := by
  simp only [buildA, zeroT, tkT, plT, Option.bind_some]; rfl
theorem bdT_4 (k : Int) (xs : List AV) (m : Nat) (g : Gk) : buildA Tryd.prog 28 [(0, .int .i64 k), (4, .sl xs m (gr g))] = some (.agg [.int .i64 k, .bool false, .sl [] 0 .nil, .str [], .int .i64 0, .sl xs m (gr g)]) := by
  simp only [buildA, zeroT, tkT, plT, Option.bind_some]
  cases g <;> rfl
theorem lenTk (s : St) (xs : List AV) (m : Nat) (g : Grip) : lenA Tryd.prog 26 s (.sl xs m g) = some (.int .i64 (m : Int)) := by simp only [lenA, tkTk]
end Go.Ab
