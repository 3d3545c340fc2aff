/- Several texts put together: AbeA9, AbeT1, AbeT2, AbeT3, AbeT4, AbeT6, AbeX0, AbeT7, AbeT8, AbeT9, AbeT10, AbeT12, AbeT13, AbeT14, AbeT15, AbeT16, AbMono, AbeT17, AbeOp, AbeOp2, AbeT20, AbeT18, AbeT19, AbeR1, AbeR2, AbeR3, AbeR4, AbeR5, AbeR6, AbeR7, AbeR8, AbeR9, AbeA18, AbeT21, AbeT22. Conditions: as each part says. -/
import Derived.Test.YticeekdofpdcoaaAbEAllZ04
import Derived.Test.YticeekdofpdcoaaAbEAllZ00
/- What the number statements ask besides. Conditions: limbs in range. -/
namespace Go.Ab
open Go.Proofs
set_option maxRecDepth 100000
set_option linter.unusedSimpArgs false

set_option maxHeartbeats 2000000 in
theorem rcheck_eq (n d : Nat) (neg : Bool) (g : Gk) (l : List Nat) (hl : Limbs l) : evalFn Try.prog cfg0 n (d+1) 87 [.tree (encA neg g l)] = some (.tree (.bool (chkN neg l)), [[]]) := by
  rw [evalFn_go _ Try.func87 (by unfold Try.f87; rfl) (by unfold Try.f87; decide) (Nat.le_of_ble_eq_true (by unfold Try.f87; rfl)) (by kernel_rfl)]
  unfold chkN
  by_cases h : (l.length : Int) ≤ 12
  rotate_left
  · have e1 : decide (l.length ≤ 12) = false := decide_eq_false (by omega)
    simp only [simB, zbo, Nat.reduceBEq, own0, ↓reduceIte, Nat.reduceEqDiff, Nat.reduceAdd, simA, simL, simN, Nat.zero_add, st0_1, h, e1, Bool.false_and]
    exact finish_tree _ _ _ _ _ _ (.bool false) _ _ (by simp only [zfk, ↓reduceIte]) rfl rfl
  have e1 : decide (l.length ≤ 12) = true := decide_eq_true (by omega)
  by_cases hz : l = []
  · subst hz
    have p1 : (((([] : List Nat).length : Nat) : Int) == 0) = true := rfl
    cases neg with
    | false =>
      simp only [simB, zbo, Nat.reduceBEq, own0, ↓reduceIte, Nat.reduceEqDiff, Nat.reduceAdd, simA, simL, simN, Nat.zero_add, st0_1, h, p1, unA_not', Bool.not_false]
      exact finish_tree _ _ _ _ _ _ (.bool true) _ _ (by simp only [zfk, ↓reduceIte]) rfl rfl
    | true =>
      have p2 : ¬ ((([] : List Nat).length : Nat) : Int) > 0 := by simp
      simp only [simB, zbo, Nat.reduceBEq, own0, ↓reduceIte, Nat.reduceEqDiff, Nat.reduceAdd, simA, simL, simN, Nat.zero_add, st0_1, h, p1, p2, unA_not', Bool.not_true]
      exact finish_tree _ _ _ _ _ _ (.bool false) _ _ (by simp only [zfk, ↓reduceIte]) rfl rfl
  · have hp : 0 < l.length := List.length_pos_iff.mpr hz
    have p1 : ((l.length : Int) == 0) = false := by rw [beq_eq_false_iff_ne]; omega
    have p2 : (l.length : Int) > 0 := by omega
    have p3 := i_sub Try.prog 3 (l.length : Int) 1 (by omega) (by omega)
    have p4 : (0 : Int) ≤ (l.length : Int) - 1 := by omega
    have p5 : (l.length : Int) - 1 < l.length := by omega
    have p6 : ((l.length : Int) - 1).toNat = l.length - 1 := by omega
    have p7 : l.length - 1 < l.length := by omega
    have q1 : decide (l.length = 0) = false := decide_eq_false (by omega)
    have q2 : decide (0 < l.length) = true := decide_eq_true hp
    simp only [simB, zbo, Nat.reduceBEq, own0, ↓reduceIte, Nat.reduceEqDiff, Nat.reduceAdd, simA, simL, simN, Nat.zero_add, st0_1, h, p1, p2, p3, p4, p5, p6, p7, e1, q1, q2, neq0, Bool.false_and, Bool.false_or, Bool.true_and]
    exact finish_tree _ _ _ _ _ _ (.bool (decide (l.getD (l.length - 1) 0 ≠ 0))) _ _ (by simp only [zfk, ↓reduceIte]) rfl rfl
theorem cRcheck (n d : Nat) (neg : Bool) (g : Gk) (l : List Nat) (hl : Limbs l) (D : Nat) (s : St) : callA cfg0 (evalFn Try.prog cfg0 n (d+1)) D s 87 [encA neg g l] = some (.bool (chkN neg l), s) :=
  callA_trees rfl (rcheck_eq n d neg g l hl)
set_option maxHeartbeats 2000000 in
theorem sameN_eq (n d : Nat) (b : Bool) (g g' : Gk) (l : List Nat) (hn : l.length < n) (hk : l.length ≤ 1000000) : evalFn Try.prog cfg0 n (d+2) 33 [.tree (encA b g l), .tree (encA b g' l)] = some (.tree (.bool true), [[], []]) := by
  rw [evalFn_go _ Try.func33 (by unfold Try.f33; rfl) (by unfold Try.f33; decide) (Nat.le_of_ble_eq_true (by unfold Try.f33; rfl)) (by kernel_rfl)]
  have c1 := fun D s => callA_L2 (evalFn Try.prog cfg0 n (d+1)) D s 67 g l g' l _ (same_eq n d g g' l hn hk)
  have eb := bool_eql 4 tk4
  have p : (b == b) = true := beq_self_eq_true b
  simp only [simB, zbo, Nat.reduceBEq, own0, ↓reduceIte, Nat.reduceEqDiff, Nat.reduceAdd, simA, simL, simN, Nat.zero_add, st0_2, eb, p, c1]
  exact finish_b _ _ _ _ _ _ _ (by simp only [zfk, ↓reduceIte]) rfl
section
variable (n d : Nat) (hn : 100000 ≤ n)
include hn
end
end Go.Ab

/- Terms as structs: their cells, read and written. No conditions. -/
namespace Go.Ab
open Go.Proofs
set_option maxRecDepth 100000
set_option linter.unusedSimpArgs false

theorem tkT : tkOf Try.prog 28 = .st := by kernel_rfl
theorem eszT : esz Try.prog 28 = some 6 := by kernel_rfl
theorem shT : shOf Try.prog 28 = some (true, 6) := by kernel_rfl
theorem zeroT : zeroOf Try.prog 28 = some [.int .i64 0, .bool false, .sl [] 0 .nil, .str [], .int .i64 0, .sl [] 0 .nil] := by kernel_rfl
theorem plT : placesA Try.prog 28 = some [(0, 1), (1, 2), (3, 1), (4, 1), (5, 1)] := by kernel_rfl
theorem fdT0 : fieldOf Try.prog 28 0 = some (3, 0) := by kernel_rfl
theorem fdT1 : fieldOf Try.prog 28 1 = some (25, 1) := by kernel_rfl
theorem fdT2 : fieldOf Try.prog 28 2 = some (9, 3) := by kernel_rfl
theorem fdT3 : fieldOf Try.prog 28 3 = some (3, 4) := by kernel_rfl
theorem fdT4 : fieldOf Try.prog 28 4 = some (26, 5) := by kernel_rfl
theorem eszTi : esz Try.prog 3 = some 1 := by kernel_rfl
theorem eszTs : esz Try.prog 9 = some 1 := by kernel_rfl
theorem eszTk : esz Try.prog 26 = some 1 := by kernel_rfl
theorem shTi : shOf Try.prog 3 = some (false, 1) := by kernel_rfl
theorem shTs : shOf Try.prog 9 = some (false, 1) := by kernel_rfl
theorem shTk : shOf Try.prog 26 = some (false, 1) := by kernel_rfl
theorem tkTk : tkOf Try.prog 26 = .sl 28 := by kernel_rfl
theorem faT_0 (s : St) (p k off : Nat) : fieldAddrA Try.prog 28 s (.ptr p k off) 0 = faE (s p) p k off := by
  simp only [fieldAddrA, fdT0, eszTi, live, cellsAt_E, faE, Nat.add_zero]
theorem faT_1 (s : St) (p k off : Nat) : fieldAddrA Try.prog 28 s (.ptr p k off) 1 = faE (s p) p k (off + 1) := by
  simp only [fieldAddrA, fdT1, esz24, live, cellsAt_E, faE]
theorem faT_2 (s : St) (p k off : Nat) : fieldAddrA Try.prog 28 s (.ptr p k off) 2 = faE (s p) p k (off + 3) := by
  simp only [fieldAddrA, fdT2, eszTs, live, cellsAt_E, faE]
theorem faT_3 (s : St) (p k off : Nat) : fieldAddrA Try.prog 28 s (.ptr p k off) 3 = faE (s p) p k (off + 4) := by
  simp only [fieldAddrA, fdT3, eszTi, live, cellsAt_E, faE]
theorem faT_4 (s : St) (p k off : Nat) : fieldAddrA Try.prog 28 s (.ptr p k off) 4 = faE (s p) p k (off + 5) := by
  simp only [fieldAddrA, fdT4, eszTk, live, cellsAt_E, faE]
section
variable (t k : Nat) (a b c d e f : AV)
theorem ldT_a : ldE Try.prog 28 ⟨t, .buf [a, b, c, d, e, f]⟩ k 0 = if t = k then some (.agg [a, b, c, d, e, f]) else none := by
  rw [ldE_buf, cellsE_buf]
  by_cases h : t = k
  · simp [h, partA, shT]
  · simp [h]
theorem ldT_0 : ldE Try.prog 3 ⟨t, .buf [a, b, c, d, e, f]⟩ k 0 = if t = k then some a else none := by
  rw [ldE_buf, cellsE_buf]
  by_cases h : t = k
  · simp [h, partA, shTi]
  · simp [h]
theorem ldT_1 : ldE Try.prog 25 ⟨t, .buf [a, b, c, d, e, f]⟩ k 1 = if t = k then some (.agg [b, c]) else none := by
  rw [ldE_buf, cellsE_buf]
  by_cases h : t = k
  · simp [h, partA, sh24]
  · simp [h]
theorem ldT_2 : ldE Try.prog 9 ⟨t, .buf [a, b, c, d, e, f]⟩ k 3 = if t = k then some d else none := by
  rw [ldE_buf, cellsE_buf]
  by_cases h : t = k
  · simp [h, partA, shTs]
  · simp [h]
theorem ldT_3 : ldE Try.prog 3 ⟨t, .buf [a, b, c, d, e, f]⟩ k 4 = if t = k then some e else none := by
  rw [ldE_buf, cellsE_buf]
  by_cases h : t = k
  · simp [h, partA, shTi]
  · simp [h]
theorem ldT_4 : ldE Try.prog 26 ⟨t, .buf [a, b, c, d, e, f]⟩ k 5 = if t = k then some f else none := by
  rw [ldE_buf, cellsE_buf]
  by_cases h : t = k
  · simp [h, partA, shTk]
  · simp [h]
end
def stT (e : Ent) (p k : Nat) (s : St) (ys : List AV) : Option St :=
  match e with | ⟨t', .buf xs⟩ => if t' = k then (if ys.length ≤ xs.length then some (upd s p ⟨t', .buf (splice xs 0 ys)⟩) else none) else none | _ => none
theorem st_T (s : St) (p k : Nat) (a b c d e f : AV) : storeA Try.prog 28 s (.ptr p k 0) (.agg [a, b, c, d, e, f]) = stT (s p) p k s [a, b, c, d, e, f] := by
  simp only [storeA, settle, Option.bind_some, stT]
  cases h : s p with
  | mk t c => cases c <;> simp [eszT]
theorem stT_buf (t k p : Nat) (s : St) (a b c d e f a' b' c' d' e' f' : AV) : stT ⟨t, .buf [a', b', c', d', e', f']⟩ p k s [a, b, c, d, e, f] = if t = k then some (upd s p ⟨t, .buf [a, b, c, d, e, f]⟩) else none := by
  simp [stT, splice]
theorem bdT_0 (k : Int) : buildA Try.prog 28 [(0, .int .i64 k)] = some (.agg [.int .i64 k, .bool false, .sl [] 0 .nil, .str [], .int .i64 0, .sl [] 0 .nil]) := by
  simp only [buildA, zeroT, tkT, plT, Option.bind_some]; rfl
theorem bdT_1 (k : Int) (b : Bool) (g : Gk) (l : List Nat) : buildA Try.prog 28 [(0, .int .i64 k), (1, .agg [.bool b, encL g l])] = some (.agg [.int .i64 k, .bool b, encL g l, .str [], .int .i64 0, .sl [] 0 .nil]) := by
  simp only [buildA, zeroT, tkT, plT, Option.bind_some]; rfl
theorem bdT_2 (k : Int) (s : List UInt8) : buildA Try.prog 28 [(0, .int .i64 k), (2, .str s)] = some (.agg [.int .i64 k, .bool false, .sl [] 0 .nil, .str s, .int .i64 0, .sl [] 0 .nil]) := by
  simp only [buildA, zeroT, tkT, plT, Option.bind_some]; rfl
theorem bdT_4 (k : Int) (xs : List AV) (m : Nat) (g : Gk) : buildA Try.prog 28 [(0, .int .i64 k), (4, .sl xs m (gr g))] = some (.agg [.int .i64 k, .bool false, .sl [] 0 .nil, .str [], .int .i64 0, .sl xs m (gr g)]) := by
  simp only [buildA, zeroT, tkT, plT, Option.bind_some]
  cases g <;> rfl
theorem lenTk (s : St) (xs : List AV) (m : Nat) (g : Grip) : lenA Try.prog 26 s (.sl xs m g) = some (.int .i64 (m : Int)) := by simp only [lenA, tkTk]
end Go.Ab

/- The term statements' own example, by the kernel's own reckoning. No conditions. -/
namespace Go.Ab
open Go.Proofs
def isOkT : Option Out → Bool
  | some (.tree (.bool true), []) => true
  | _ => false
theorem isOkT_eq {o : Option Out} (h : isOkT o = true) : o = some (.tree (.bool true), []) := by
  unfold isOkT at h
  split at h
  · rfl
  · cases h
end Go.Ab

/- Terms of each kind: compared, the same. Conditions: limbs in range. -/
namespace Go.Ab
open Go.Proofs
set_option maxRecDepth 100000
set_option linter.unusedSimpArgs false

section
variable (b : Bool) (g : Gk) (l : List Nat) (s : List UInt8)
end
end Go.Ab

/- A term of each kind beside itself. Conditions: limbs in range. -/
namespace Go.Ab
open Go.Proofs
set_option maxRecDepth 100000
set_option linter.unusedSimpArgs false

theorem s_neqS (P : Program) (t : TypeId) (a b : List UInt8) : binA P .neq t (.str a) (.str b) = some (.bool (!(a == b))) := rfl
theorem s_eqlS (P : Program) (t : TypeId) (a b : List UInt8) : binA P .eql t (.str a) (.str b) = some (.bool (a == b)) := rfl
theorem faN_0 (s : St) (p k off : Nat) : fieldAddrA Try.prog 25 s (.ptr p k off) 0 = faE (s p) p k off := by
  simp only [fieldAddrA, fd24_0, esz4, live, cellsAt_E, faE, Nat.add_zero]
theorem faN_1 (s : St) (p k off : Nat) : fieldAddrA Try.prog 25 s (.ptr p k off) 1 = faE (s p) p k (off + 1) := by
  simp only [fieldAddrA, fd24_1, esz22, live, cellsAt_E, faE]
theorem ldT_l (t k : Nat) (a b c d e f : AV) : ldE Try.prog 23 ⟨t, .buf [a, b, c, d, e, f]⟩ k 2 = if t = k then some c else none := by
  rw [ldE_buf, cellsE_buf]
  by_cases h : t = k
  · simp [h, partA, sh22]
  · simp [h]
section
variable (b : Bool) (g : Gk) (l : List Nat) (s : List UInt8)
set_option maxHeartbeats 8000000
end
end Go.Ab

/- Terms as trees: their cells; how deep, how many; what term.check asks. No conditions. -/
namespace Go.Ab
open Go.Proofs
set_option maxRecDepth 100000
set_option linter.unusedSimpArgs false

inductive T where
  | mk (k : Int) (b : Bool) (lg : Gk) (l : List Nat) (s : List UInt8) (n : Int) (kg : Gk) (ks : List T)
mutual
def cellsT : T → List AV
  | .mk k b lg l s n kg ks => [.int .i64 k, .bool b, encL lg l, .str s, .int .i64 n, .sl (cellsK ks) ks.length (gr kg)]
def cellsK : List T → List AV
  | [] => []
  | t :: r => cellsT t ++ cellsK r
end
def encT (t : T) : AV := .agg (cellsT t)
mutual
def nodT : T → Nat
  | .mk _ _ _ _ _ _ _ ks => nodK ks + 1
def nodK : List T → Nat
  | [] => 0
  | t :: r => nodT t + nodK r
end
mutual
def htT : T → Nat
  | .mk _ _ _ _ _ _ _ ks => htK ks + 1
def htK : List T → Nat
  | [] => 0
  | t :: r => max (htT t) (htK r)
end
theorem cellsT_len (t : T) : (cellsT t).length = 6 := by cases t; simp only [cellsT]; rfl
theorem cellsK_len : ∀ ks : List T, (cellsK ks).length = ks.length * 6
  | [] => rfl
  | t :: r => by simp only [cellsK, List.length_append, cellsT_len, cellsK_len r, List.length_cons]; omega
theorem cellsK_drop : ∀ (ks : List T) (i : Nat), (cellsK ks).drop (i * 6) = cellsK (ks.drop i)
  | [], i => by simp [cellsK]
  | t :: r, 0 => by simp
  | t :: r, i + 1 => by
    have h : (i + 1) * 6 = (cellsT t).length + i * 6 := by rw [cellsT_len]; omega
    simp only [cellsK, List.drop_succ_cons]
    rw [h, ← List.drop_drop, List.drop_left, cellsK_drop r i]
theorem cellsK_take : ∀ (ks : List T) (i : Nat), (cellsK ks).take (i * 6) = cellsK (ks.take i)
  | [], i => by simp [cellsK]
  | t :: r, 0 => by simp [cellsK]
  | t :: r, i + 1 => by
    have h : (i + 1) * 6 = (cellsT t).length + i * 6 := by rw [cellsT_len]; omega
    simp only [cellsK, List.take_succ_cons]
    rw [h, List.take_length_add_append, cellsK_take r i]
theorem cellsK_append (a b : List T) : cellsK (a ++ b) = cellsK a ++ cellsK b := by
  induction a with
  | nil => rfl
  | cons t r ih => simp only [List.cons_append, cellsK, ih, List.append_assoc]
theorem ia_K (s : St) (ks : List T) (g : Grip) (i : Nat) (h : i < ks.length) : indexAddrA Try.prog 26 s (.sl (cellsK ks) ks.length g) (.int .i64 (i : Int)) = some (.rptr (cellsK (ks.drop i))) := by
  simp only [indexAddrA, tkTk, eszT, Option.bind_some, Int.toNat_natCast]
  rw [if_pos ⟨by omega, by omega⟩, cellsK_drop]
theorem ld_K (s : St) (t : T) (r : List T) : loadA Try.prog 28 s (.rptr (cellsK (t :: r))) = some (encT t) := by
  have h : (cellsT t ++ cellsK r).take 6 = cellsT t := by rw [← cellsT_len t]; simp
  have h2 : 6 ≤ (cellsT t ++ cellsK r).length := by rw [List.length_append, cellsT_len]; omega
  simp only [loadA, partA, shT, cellsK, Nat.zero_add, h2, ↓reduceIte, List.drop_zero, h, encT]
theorem nod_pos (t : T) : 0 < nodT t := by cases t; simp [nodT]
mutual
def wfT : T → Prop
  | .mk _ _ _ l _ _ _ ks => Limbs l ∧ wfK ks
def wfK : List T → Prop
  | [] => True
  | t :: r => wfT t ∧ wfK r
end
theorem nodK_len : ∀ ks : List T, ks.length ≤ nodK ks
  | [] => Nat.le_refl _
  | t :: r => by have := nod_pos t; have := nodK_len r; simp only [nodK, List.length_cons]; omega
theorem kids_ht : ∀ (ks : List T) (i : Nat) (t : T) (r : List T), ks.drop i = t :: r → htT t ≤ htK ks
  | [], i, t, r, h => by simp at h
  | a :: q, 0, t, r, h => by simp only [List.drop_zero, List.cons.injEq] at h; obtain ⟨rfl, rfl⟩ := h; simp only [htK]; omega
  | a :: q, i + 1, t, r, h => by have := kids_ht q i t r (by simpa using h); simp only [htK]; omega
theorem kids_nod : ∀ (ks : List T) (i : Nat) (t : T) (r : List T), ks.drop i = t :: r → nodT t ≤ nodK ks
  | [], i, t, r, h => by simp at h
  | a :: q, 0, t, r, h => by simp only [List.drop_zero, List.cons.injEq] at h; obtain ⟨rfl, rfl⟩ := h; simp only [nodK]; omega
  | a :: q, i + 1, t, r, h => by have := kids_nod q i t r (by simpa using h); simp only [nodK]; omega
theorem kids_wf : ∀ (ks : List T) (i : Nat) (t : T) (r : List T), ks.drop i = t :: r → wfK ks → wfT t
  | [], i, t, r, h, _ => by simp at h
  | a :: q, 0, t, r, h, hw => by simp only [List.drop_zero, List.cons.injEq] at h; obtain ⟨rfl, rfl⟩ := h; simp only [wfK] at hw; exact hw.1
  | a :: q, i + 1, t, r, h, hw => by simp only [wfK] at hw; exact kids_wf q i t r (by simpa using h) hw.2
theorem drop_next {α : Type} {ks : List α} {i : Nat} {t : α} {r : List α} (h : ks.drop i = t :: r) : ks.drop (i + 1) = r := by
  rw [← List.drop_drop, h]; rfl
end Go.Ab

/- Strings: short things. No conditions. -/
namespace Go.Ab
open Go.Proofs
set_option maxRecDepth 100000
set_option linter.unusedSimpArgs false

theorem len9 (s : St) (b : List UInt8) : lenA Try.prog 9 s (.str b) = some (.int .i64 (b.length : Int)) := by simp only [lenA, tk9]
theorem ix9 (b : List UInt8) (k : IntKind) (i : Int) : indexA Try.prog 9 (.str b) (.int k i) = if 0 ≤ i ∧ i < b.length then some (.int .u8 ((b.getD i.toNat 0).toNat : Int)) else none := by simp only [indexA, tk9]
theorem zey (P : Program) (t : TypeId) (a b : List UInt8) : binA P .eql t (.str a) (.str b) = some (.bool (a == b)) := rfl
theorem zez (P : Program) (t : TypeId) (a b : List UInt8) : binA P .neq t (.str a) (.str b) = some (.bool (!(a == b))) := rfl
theorem s_addS (P : Program) (t : TypeId) (a b : List UInt8) (h : a.length + b.length ≤ 9223372036854775807) : binA P .add t (.str a) (.str b) = some (.str (a ++ b)) := if_pos h
theorem zfa (s : St) (b : List UInt8) (k : IntKind) (i : Int) : sliceA Try.prog 9 s (.str b) (some (.int k i)) none none = if 0 ≤ i ∧ i ≤ b.length then some (.str (b.drop i.toNat)) else none := by
  simp only [sliceA, tk9, boundA, Option.isSome_none, Bool.false_eq_true, if_false, Option.bind_some]
  split
  · rw [Option.bind_some, List.take_length]
  · rfl
theorem zfb (s : St) (b : List UInt8) (k : IntKind) (i : Int) : sliceA Try.prog 9 s (.str b) none (some (.int k i)) none = if 0 ≤ i ∧ i ≤ b.length then some (.str (b.take i.toNat)) else none := by
  simp only [sliceA, tk9, boundA, Option.isSome_none, Bool.false_eq_true, if_false, Option.bind_some]
  split
  · rfl
  · rfl
theorem finish_s (k : Bool) (xs : List Arg) (t : Nat) (env : Env) (s : St) (v : List UInt8) (os : List (List AV)) (hv : env t = .str v) (ho : outsA s 0 xs = some os) :
    finishP Try.prog k xs #[.tmp t] env s = some (.tree (.str v), os) := finish_tree _ _ _ _ _ _ (.str v) _ _ hv rfl ho
def nilE (s : St) : AV → Option (AV × St)
  | .ptr p t off => if live s p t then some (.ptr p t off, s) else none
  | .rptr xs => some (.rptr xs, s)
  | _ => none
theorem opA_nilc {P : Program} {cfg : Cfg} {call : FuncId → List Arg → Option Out} {q : Bool} {d : Option Tmp} {ty : TypeId} {pos : String} {af : Array Edge} {g : Option (Nat × Bool)} {t : Nat} {env : Env} {s : St} (x : Operand) : opA P cfg call q ⟨d, .nilCheck x, ty, pos, af, g⟩ t env s = nilE s (ev env x) := by
  simp only [opA, nilE]
  cases ev env x <;> rfl
theorem nilE_ptr (s : St) (p t off : Nat) : nilE s (.ptr p t off) = if (cellsE (s p) t).isSome = true then some (.ptr p t off, s) else none := by simp only [nilE, live, cellsAt_E]
end Go.Ab

/- Of a term by itself: is it right? No conditions but limbs in range. -/
namespace Go.Ab
open Go.Proofs
set_option maxRecDepth 100000
set_option linter.unusedSimpArgs false

def zeroB (b : Bool) (l : List Nat) : Bool := !b && decide (l.length = 0)
theorem len23 (s : St) (g : Gk) (l : List Nat) : lenA Try.prog 23 s (encL g l) = some (.int .i64 (l.length : Int)) := zdx s g l
theorem zeroN_eq (n d : Nat) (b : Bool) (g : Gk) (l : List Nat) : evalFn Try.prog cfg0 n (d+1) 89 [.tree (encA b g l)] = some (.tree (.bool (zeroB b l)), [[]]) := by
  rw [evalFn_go _ Try.func89 (by unfold Try.f89; rfl) (by unfold Try.f89; decide) (Nat.le_of_ble_eq_true (by unfold Try.f89; rfl)) (by kernel_rfl)]
  have e : ((l.length : Int) == 0) = decide (l.length = 0) := by rw [Bool.eq_iff_iff, beq_iff_eq, decide_eq_true_eq]; omega
  cases b
  · simp only [simB, zbo, Nat.reduceBEq, own0, ↓reduceIte, Nat.reduceEqDiff, Nat.reduceAdd, simA, simL, simN, Nat.zero_add, encA, unA_not', Bool.not_false, Bool.not_true, e]
    exact finish_b _ _ _ _ _ _ _ ((by simp only [zfk, ↓reduceIte, Nat.reduceEqDiff]; try rfl)) rfl
  · simp only [simB, zbo, Nat.reduceBEq, own0, ↓reduceIte, Nat.reduceEqDiff, Nat.reduceAdd, simA, simL, simN, Nat.zero_add, encA, unA_not', Bool.not_false, Bool.not_true]
    exact finish_b _ _ _ _ _ _ _ ((by simp only [zfk, ↓reduceIte, Nat.reduceEqDiff]; try rfl)) rfl
def okC (c : UInt8) : Bool := decide (33 ≤ c.toNat) && decide (c.toNat ≤ 126)
def nameB (s : List UInt8) : Bool := decide (1 ≤ s.length) && decide (s.length ≤ 40) && s.all okC
theorem name_eq (n d : Nat) (hn : 100 ≤ n) (s : List UInt8) : evalFn Try.prog cfg0 n (d+1) 90 [.tree (.str s)] = some (.tree (.bool (nameB s)), [[]]) := by
  rw [evalFn_go _ Try.func90 (by unfold Try.f90; rfl) (by unfold Try.f90; decide) (Nat.le_of_ble_eq_true (by unfold Try.f90; rfl)) (by kernel_rfl)]
  by_cases h1 : (s.length : Int) < 1
  · have e : nameB s = false := by unfold nameB; rw [decide_eq_false (by omega)]; rfl
    rw [e]
    simp only [simB, zbo, Nat.reduceBEq, own0, ↓reduceIte, Nat.reduceEqDiff, Nat.reduceAdd, simA, simL, zex, List.toList_toArray, len9, ix9, zey, zez, zfa, zfb, zfc, h1]
    exact finish_b _ _ _ _ _ _ _ ((by simp only [zfk, ↓reduceIte, Nat.reduceEqDiff]; try rfl)) rfl
  by_cases h2 : (s.length : Int) > 40
  · have e : nameB s = false := by unfold nameB; rw [decide_eq_false (p := s.length ≤ 40) (by omega)]; simp
    rw [e]
    simp only [simB, zbo, Nat.reduceBEq, own0, ↓reduceIte, Nat.reduceEqDiff, Nat.reduceAdd, simA, simL, zex, List.toList_toArray, len9, ix9, zey, zez, zfa, zfb, zfc, h1, h2]
    exact finish_b _ _ _ _ _ _ _ ((by simp only [zfk, ↓reduceIte, Nat.reduceEqDiff]; try rfl)) rfl
  have e : nameB s = s.all okC := by unfold nameB; rw [decide_eq_true (by omega), decide_eq_true (by omega)]; rfl
  rw [e]
  simp only [simB, zbo, Nat.reduceBEq, own0, ↓reduceIte, Nat.reduceEqDiff, Nat.reduceAdd, simA, simL, zex, List.toList_toArray, len9, ix9, zey, zez, zfa, zfb, zfc, h1, h2, den_loop]
  refine loop_ends (X := Nat) (fun i env s' => env 0 = .str s ∧ env 13 = .int .i64 (s.length : Int) ∧ env 14 = .int .i64 (i : Int) ∧ i ≤ s.length ∧ (s.take i).all okC = true) (fun i => s.length - i) (fun _ => (.tree (.bool (s.all okC)), [[]])) ?_ n 0 _ _ (by omega) ⟨by simp only [zfk, ↓reduceIte, Nat.reduceEqDiff, simA], by simp only [zfk, ↓reduceIte, Nat.reduceEqDiff], by simp only [zfk, ↓reduceIte, Nat.reduceEqDiff]; rfl, Nat.zero_le _, rfl⟩
  intro k i hx ih env st ⟨e0, e1, e2, hi, ha⟩
  by_cases hp : i = s.length
  · subst hp
    have q1 : ¬ ((s.length : Int) < (s.length : Int)) := by omega
    rw [List.take_length] at ha
    rw [ha]
    simp only [simB, zbo, Nat.reduceBEq, own0, ↓reduceIte, Nat.reduceEqDiff, Nat.reduceAdd, simL, zex, List.toList_toArray, len9, ix9, zey, zez, zfa, zfb, zfc, e0, e1, e2, q1]
    exact finish_b _ _ _ _ _ _ _ ((by simp only [zfk, ↓reduceIte, Nat.reduceEqDiff]; try rfl)) rfl
  · have q1 : (i : Int) < (s.length : Int) := by omega
    have q2 : (0 : Int) ≤ (i : Int) ∧ (i : Int) < (s.length : Int) := by omega
    have f4 := i_add Try.prog 3 (i : Int) 1 (by omega) (by omega)
    have hs : s.take (i + 1) = s.take i ++ [s.getD i 0] := by
      rw [List.take_add_one, List.getD, List.getElem?_eq_getElem (by omega)]; rfl
    have ha1 : ∀ c, s.getD i 0 = c → okC c = true → (s.take (i + 1)).all okC = true := by
      intro c hc ho
      rw [hs, hc, List.all_append, ha]; simp [ho]
    have ha0 : ∀ c, s.getD i 0 = c → okC c = false → s.all okC = false := by
      intro c hc ho
      rw [List.all_eq_false]
      refine ⟨c, ?_, by rw [ho]; decide⟩
      rw [← hc, List.getD, List.getElem?_eq_getElem (by omega)]
      exact List.getElem_mem _
    generalize hc : s.getD i 0 = c at ha1 ha0
    replace ha1 := ha1 c rfl
    replace ha0 := ha0 c rfl
    by_cases c1 : (c.toNat : Int) < 33
    · rw [ha0 (by unfold okC; rw [decide_eq_false (by omega)]; rfl)]
      simp only [simB, zbo, Nat.reduceBEq, own0, ↓reduceIte, Nat.reduceEqDiff, Nat.reduceAdd, simL, zex, List.toList_toArray, len9, ix9, zey, zez, zfa, zfb, zfc, e0, e1, e2, q1, q2, and_self, Int.toNat_natCast, hc, c1]
      exact finish_b _ _ _ _ _ _ _ ((by simp only [zfk, ↓reduceIte, Nat.reduceEqDiff]; try rfl)) rfl
    by_cases c2 : (c.toNat : Int) > 126
    · rw [ha0 (by unfold okC; rw [decide_eq_false (p := c.toNat ≤ 126) (by omega)]; simp)]
      simp only [simB, zbo, Nat.reduceBEq, own0, ↓reduceIte, Nat.reduceEqDiff, Nat.reduceAdd, simL, zex, List.toList_toArray, len9, ix9, zey, zez, zfa, zfb, zfc, e0, e1, e2, q1, q2, and_self, Int.toNat_natCast, hc, c1, c2]
      exact finish_b _ _ _ _ _ _ _ ((by simp only [zfk, ↓reduceIte, Nat.reduceEqDiff]; try rfl)) rfl
    · have ha1 := ha1 (by unfold okC; rw [decide_eq_true (by omega), decide_eq_true (by omega)]; rfl)
      simp only [simB, zbo, Nat.reduceBEq, own0, ↓reduceIte, Nat.reduceEqDiff, Nat.reduceAdd, simL, zex, List.toList_toArray, len9, ix9, zey, zez, zfa, zfb, zfc, e0, e1, e2, q1, q2, and_self, Int.toNat_natCast, hc, c1, c2, f4]
      refine ih (i + 1) _ _ (by omega) rfl ⟨?_, ?_, ?_, by omega, ha1⟩
      · simp only [zfk, ↓reduceIte, Nat.reduceEqDiff, e0]
      · simp only [zfk, ↓reduceIte, Nat.reduceEqDiff, e1]
      · simp only [zfk, ↓reduceIte, Nat.reduceEqDiff]; rfl

def ownT : T → Bool
  | .mk k b _ l s n _ ks => decide (1 ≤ k ∧ k ≤ 6) && ((if k = 1 then chkN b l else zeroB b l) && (if k = 2 then nameB s else if k = 6 then decide (s.length ≤ 400) else s == []) && (if k = 4 then decide (ks.length = 2) else if k = 5 then decide (ks.length ≤ 40) else decide (ks.length = 0)) && decide (n = 0))
def limT : T → List Nat
  | .mk _ _ _ l _ _ _ _ => l
theorem natEq (x y : Nat) : ((x : Int) == (y : Int)) = decide (x = y) := by rw [Bool.eq_iff_iff, beq_iff_eq, decide_eq_true_eq]; omega
theorem natEq0 (x : Nat) : ((x : Int) == 0) = decide (x = 0) := natEq x 0
theorem natEq2 (x : Nat) : ((x : Int) == 2) = decide (x = 2) := natEq x 2
theorem intEq0 (x : Int) : (x == 0) = decide (x = 0) := by rw [Bool.eq_iff_iff, beq_iff_eq, decide_eq_true_eq]
theorem i_eqlV (x y : Int) : binA Try.prog .eql 3 (.int .i64 x) (.int .i64 y) = some (.bool (x == y)) := rfl
theorem i_leqV (x y : Int) : binA Try.prog .leq 3 (.int .i64 x) (.int .i64 y) = some (.bool (decide (x ≤ y))) := rfl
section
variable {P : Program} {cfg : Cfg} {call : FuncId → List Arg → Option Out} {n : Nat}
theorem den_assoc (a b c : Code) (K : Kont) (env : Env) (s : St) : den P cfg call n (.seq a (.seq b c)) K env s = den P cfg call n (.seq (.seq a b) c) K env s := by
  rw [zaa, zaa, zaa]
  congr 1
  funext e env s
  cases e <;> rfl
theorem seq_cut {a b : Code} {K : Kont} {env : Env} {s : St} {out : Option Out} (I : Env → St → Prop) (h2 : ∀ env s, I env s → den P cfg call n b K env s = out)
    (h1 : ∀ K' : Kont, (∀ env s, I env s → K' .normal env s = out) → (∀ env s, K' .ret env s = K .ret env s) → (∀ i env s, K' (.exit i) env s = K (.exit i) env s) → den P cfg call n a K' env s = out) : den P cfg call n (.seq a b) K env s = out :=
  h1 (seqK P cfg call n b K) (fun env s h => h2 env s h) (fun _ _ => rfl) (fun _ _ _ => rfl)
end
set_option maxHeartbeats 8000000 in
theorem own_eq (n d : Nat) (hn : 100 ≤ n) (k : Int) (b : Bool) (lg : Gk) (l : List Nat) (hl : Limbs l) (s : List UInt8) (m : Int) (kg : Gk) (ks : List T) :
    evalFn Try.prog cfg0 n (d+2) 80 [.tree (encT (.mk k b lg l s m kg ks))] = some (.tree (.bool (ownT (.mk k b lg l s m kg ks))), [[]]) := by
  rw [evalFn_go _ Try.func80 (by unfold Try.f80; rfl) (by unfold Try.f80; decide) (Nat.le_of_ble_eq_true (by unfold Try.f80; rfl)) (by kernel_rfl)]
  have c1 := callQ_trees (f := 89) (vs := [.agg [.bool b, encL lg l]]) rfl (zeroN_eq n d b lg l)
  have c2 := fun D st => callA_trees (cfg := cfg0) (d := D) (s := st) (f := 89) (vs := [.agg [.bool b, encL lg l]]) rfl (zeroN_eq n d b lg l)
  have c3 := fun D st => callA_trees (cfg := cfg0) (d := D) (s := st) (f := 69) (vs := [.agg [.bool b, encL lg l]]) rfl (check_eq n d b lg l hl)
  have c4 := fun D st => callA_trees (cfg := cfg0) (d := D) (s := st) (f := 90) (vs := [.str s]) rfl (name_eq n d hn s)
  by_cases hk : 1 ≤ k ∧ k ≤ 6
  · rw [den_assoc, den_assoc]
    refine seq_cut (fun env st => env 1 = .ptr 1 1 0 ∧ st 1 = ⟨1, .buf (cellsT (.mk k b lg l s m kg ks))⟩ ∧ env 3 = .bool (if k = 1 then chkN b l else zeroB b l) ∧ env 4 = .bool (if k = 2 then nameB s else if k = 6 then decide (s.length ≤ 400) else s == []) ∧ env 5 = .bool (if k = 4 then decide (ks.length = 2) else if k = 5 then decide (ks.length ≤ 40) else decide (ks.length = 0))) ?_ ?_
    · intro env st ⟨e1, j1, e3, e4, e5⟩
      have hr : ownT (.mk k b lg l s m kg ks) = ((if k = 1 then chkN b l else zeroB b l) && (if k = 2 then nameB s else if k = 6 then decide (s.length ≤ 400) else s == []) && (if k = 4 then decide (ks.length = 2) else if k = 5 then decide (ks.length ≤ 40) else decide (ks.length = 0)) && decide (m = 0)) := by
        simp only [ownT]; rw [decide_eq_true hk, Bool.true_and]
      rw [hr]
      generalize (if k = 1 then chkN b l else zeroB b l) = x3 at *
      generalize (if k = 2 then nameB s else if k = 6 then decide (s.length ≤ 400) else s == []) = x4 at *
      generalize (if k = 4 then decide (ks.length = 2) else if k = 5 then decide (ks.length ≤ 40) else decide (ks.length = 0)) = x5 at *
      cases x3 <;> cases x4 <;> cases x5 <;>
      · simp only [simB, zbo, Nat.reduceBEq, own0, ↓reduceIte, Nat.reduceEqDiff, Nat.reduceAdd, simA, simL, zex, List.toList_toArray, len9, ix9, zey, zez, zfa, zfb, zfc, simN, Nat.zero_add, e1, j1, e3, e4, e5, cellsT, faT_0, faT_1, faT_2, faT_3, faT_4, ldT_0, ldT_1, ldT_2, ldT_3, ldT_4, i_eqlV, intEq0]
        exact finish_b _ _ _ _ _ _ _ ((by simp only [zfk, ↓reduceIte, Nat.reduceEqDiff]; try rfl)) rfl
    · intro K hN hR hE
      have hc : k = 1 ∨ k = 2 ∨ k = 3 ∨ k = 4 ∨ k = 5 ∨ k = 6 := by omega
      rcases hc with rfl | rfl | rfl | rfl | rfl | rfl <;>
      · simp only [simB, zbo, Nat.reduceBEq, own0, ↓reduceIte, Nat.reduceEqDiff, Nat.reduceAdd, simA, simL, zex, List.toList_toArray, len9, ix9, zey, zez, zfa, zfb, zfc, simN, Nat.zero_add, encT, cellsT, faT_0, faT_1, faT_2, faT_3, faT_4, ldT_0, ldT_1, ldT_2, ldT_3, ldT_4, c1, c2, c3, c4, lenTk, i_eqlV, i_leqV, Int.reduceBEq]
        refine hN _ _ ⟨(by simp only [zfk, ↓reduceIte, Nat.reduceEqDiff]; try rfl), (by simp only [zfk, ↓reduceIte, Nat.reduceEqDiff]; try rfl), ?_, ?_, ?_⟩
        · first | (simp only [zfk, ↓reduceIte, Nat.reduceEqDiff, Int.reduceEq]; done) | (simp only [zfk, ↓reduceIte, Nat.reduceEqDiff, Int.reduceEq]; rfl)
        · first | (simp only [zfk, ↓reduceIte, Nat.reduceEqDiff, Int.reduceEq, natEq0, natEq2]; done) | (simp only [zfk, ↓reduceIte, Nat.reduceEqDiff, Int.reduceEq, natEq0, natEq2]; rfl) | (simp [zfk]; done) | (simp [zfk]; omega)
        · first | (simp only [zfk, ↓reduceIte, Nat.reduceEqDiff, Int.reduceEq, natEq0, natEq2]; done) | (simp only [zfk, ↓reduceIte, Nat.reduceEqDiff, Int.reduceEq, natEq0, natEq2]; rfl) | (simp [zfk, natEq0, natEq2]; done) | (simp [zfk, natEq0, natEq2]; omega)
  · have hr : ownT (.mk k b lg l s m kg ks) = false := by simp only [ownT]; rw [decide_eq_false hk, Bool.false_and]
    rw [hr]
    have n1 : (k == 1) = false := by rw [beq_eq_false_iff_ne]; omega
    have n2 : (k == 2) = false := by rw [beq_eq_false_iff_ne]; omega
    have n3 : (k == 3) = false := by rw [beq_eq_false_iff_ne]; omega
    have n4 : (k == 4) = false := by rw [beq_eq_false_iff_ne]; omega
    have n5 : (k == 5) = false := by rw [beq_eq_false_iff_ne]; omega
    have n6 : (k == 6) = false := by rw [beq_eq_false_iff_ne]; omega
    simp only [simB, zbo, Nat.reduceBEq, own0, ↓reduceIte, Nat.reduceEqDiff, Nat.reduceAdd, simA, simL, zex, List.toList_toArray, len9, ix9, zey, zez, zfa, zfb, zfc, simN, Nat.zero_add, encT, cellsT, faT_0, faT_1, faT_2, faT_3, faT_4, ldT_0, ldT_1, ldT_2, ldT_3, ldT_4, c1, c2, c3, c4, lenTk, i_eqlV, n1, n2, n3, n4, n5, n6]
    exact finish_b _ _ _ _ _ _ _ ((by simp only [zfk, ↓reduceIte, Nat.reduceEqDiff]; try rfl)) rfl
end Go.Ab

/- term.check. Conditions: limbs in range; so many nodes at most. -/
namespace Go.Ab
open Go.Proofs
set_option maxRecDepth 100000
set_option linter.unusedSimpArgs false

mutual
def chkT : T → Int → Int → Bool × Int
  | .mk k b lg l s n kg ks, deep, left =>
    if left - 1 < 0 ∨ deep > 60 ∨ ownT (.mk k b lg l s n kg ks) = false then (false, left - 1)
    else if k = 4 then chkC ks deep (left - 1) else chkK ks (deep + 1) (left - 1)
def chkC : List T → Int → Int → Bool × Int
  | [], _, left => (false, left)
  | h :: r, deep, left => if (chkT h (deep + 1) left).1 = true then chkL r deep (chkT h (deep + 1) left).2 else chkT h (deep + 1) left
def chkL : List T → Int → Int → Bool × Int
  | [], _, left => (false, left)
  | t :: _, deep, left => chkT t deep left
def chkK : List T → Int → Int → Bool × Int
  | [], _, left => (true, left)
  | t :: r, deep, left => if (chkT t deep left).1 = true then chkK r deep (chkT t deep left).2 else chkT t deep left
end
theorem own_kids {k : Int} {b : Bool} {lg : Gk} {l : List Nat} {s : List UInt8} {n : Int} {kg : Gk} {ks : List T} (h : ownT (.mk k b lg l s n kg ks) = true) (hk : k = 4) : ∃ x y, ks = [x, y] := by
  subst hk
  simp only [ownT, ↓reduceIte, Bool.and_eq_true, decide_eq_true_eq] at h
  match ks, h.2.1.2 with
  | [x, y], _ => exact ⟨x, y, rfl⟩
mutual
theorem chkT_nod : ∀ (t : T) (deep left : Int), (chkT t deep left).1 = true → (chkT t deep left).2 = left - nodT t ∧ 0 ≤ (chkT t deep left).2
  | .mk k b lg l s n kg ks, deep, left => by
    simp only [chkT, nodT]
    split
    · intro h; cases h
    · rename_i h
      split
      · rename_i hk
        have ho : ownT (.mk k b lg l s n kg ks) = true := by
          cases h0 : ownT (.mk k b lg l s n kg ks)
          · exact absurd (.inr (.inr h0)) h
          · rfl
        obtain ⟨x, y, rfl⟩ := own_kids ho hk
        intro hc
        have := chkC_nod [x, y] deep (left - 1) rfl hc
        omega
      · intro hc
        have := chkK_nod ks (deep + 1) (left - 1) (by omega) hc
        omega
theorem chkC_nod : ∀ (ks : List T) (deep left : Int), ks.length = 2 → (chkC ks deep left).1 = true → (chkC ks deep left).2 = left - nodK ks ∧ 0 ≤ (chkC ks deep left).2
  | [], deep, left, _ => by intro h; cases h
  | h :: r, deep, left, hl => by
    simp only [chkC, nodK]
    split
    · rename_i h1
      have a := chkT_nod h (deep + 1) left h1
      intro h2
      have b := chkL_nod r deep _ (by simpa using hl) h2
      omega
    · rename_i h1; intro h2; exact absurd h2 h1
theorem chkL_nod : ∀ (ks : List T) (deep left : Int), ks.length = 1 → (chkL ks deep left).1 = true → (chkL ks deep left).2 = left - nodK ks ∧ 0 ≤ (chkL ks deep left).2
  | [], deep, left, _ => by intro h; cases h
  | t :: r, deep, left, hl => by
    have hr : r = [] := by
      cases r with
      | nil => rfl
      | cons _ _ => simp at hl
    subst hr
    simp only [chkL, nodK, Nat.add_zero]
    exact chkT_nod t deep left
theorem chkK_nod : ∀ (ks : List T) (deep left : Int), 0 ≤ left → (chkK ks deep left).1 = true → (chkK ks deep left).2 = left - nodK ks ∧ 0 ≤ (chkK ks deep left).2
  | [], deep, left, h0 => by intro _; simp only [chkK, nodK]; omega
  | t :: r, deep, left, h0 => by
    simp only [chkK, nodK]
    split
    · rename_i h1
      have a := chkT_nod t deep left h1
      intro h2
      have b := chkK_nod r deep _ a.2 h2
      omega
    · rename_i h1; intro h2; exact absurd h2 h1
end
end Go.Ab

/- term.check, walked. Conditions: limbs in range; so many nodes at most. -/
namespace Go.Ab
open Go.Proofs
set_option maxRecDepth 100000
set_option linter.unusedSimpArgs false

theorem ldI1 (t k : Nat) (a : AV) : ldE Try.prog 3 ⟨t, .buf [a]⟩ k 0 = if t = k then some a else none := by
  rw [ldE_buf, cellsE_buf]
  by_cases h : t = k
  · simp [h, partA, shTi]
  · simp [h]
def stI (e : Ent) (p k : Nat) (s : St) (v : AV) : Option St :=
  match e with | ⟨t', .buf xs⟩ => if t' = k then (if 0 < xs.length then some (upd s p ⟨t', .buf (xs.set 0 v)⟩) else none) else none | _ => none
theorem st_I (s : St) (p k : Nat) (kd : IntKind) (z : Int) : storeA Try.prog 3 s (.ptr p k 0) (.int kd z) = stI (s p) p k s (.int kd z) := by
  simp only [storeA, settle, Option.bind_some, stI]
  cases h : s p with
  | mk t c => cases c <;> simp [eszTi, cellOk]
theorem stI_buf (t k p : Nat) (s : St) (a v : AV) : stI ⟨t, .buf [a]⟩ p k s v = if t = k then some (upd s p ⟨t, .buf [v]⟩) else none := by
  simp [stI]
theorem sl_K1 (s : St) (h u : T) (g : Grip) : sliceA Try.prog 26 s (.sl (cellsK [h, u]) 2 g) none (some (.int .i64 1)) none = some (.sl (cellsK [h]) 1 .loose) := by
  have e : (cellsK [h, u]).length = 2 * 6 := cellsK_len [h, u]
  have e2 : (cellsK [h, u]).take (1 * 6) = cellsK [h] := cellsK_take [h, u] 1
  simp only [sliceA, tkTk, boundA, eszT, Option.isSome_none, Bool.false_eq_true, false_and, if_false, Option.bind_some]
  rw [if_pos (by decide)]
  simp only [Option.bind_some, e, ↓reduceIte]
  have e3 : (Int.toNat 1) * 6 = 1 * 6 := rfl
  rw [e3, e2]
  simp
theorem stT_len (e : Ent) (p k : Nat) (s : St) (ys : List AV) (t : Nat) (xs : List AV) (he : e = ⟨t, .buf xs⟩) (h1 : xs.length = 6) (h2 : ys.length = 6) : stT e p k s ys = if t = k then some (upd s p ⟨t, .buf ys⟩) else none := by
  subst he
  have h3 : splice xs 0 ys = ys := by
    simp only [splice, List.take_zero, List.nil_append, Nat.zero_add, h2]
    rw [List.drop_eq_nil_of_le (by omega), List.append_nil]
  simp only [stT, h1, h2, Nat.le_refl, ↓reduceIte, h3]
theorem st_Tt (s : St) (p k : Nat) (u : T) : storeA Try.prog 28 s (.ptr p k 0) (.agg (cellsT u)) = stT (s p) p k s (cellsT u) := by
  obtain ⟨a, b, c, d, e, f, g, h⟩ := u
  simp only [cellsT]
  exact st_T s p k _ _ _ _ _ _
theorem stT_6 (t k p : Nat) (s : St) (a b c d e f : AV) (u : T) : stT ⟨t, .buf [a, b, c, d, e, f]⟩ p k s (cellsT u) = if t = k then some (upd s p ⟨t, .buf (cellsT u)⟩) else none :=
  stT_len _ _ _ _ _ _ _ rfl rfl (cellsT_len u)
theorem stT_u (t k p : Nat) (s : St) (v u : T) : stT ⟨t, .buf (cellsT v)⟩ p k s (cellsT u) = if t = k then some (upd s p ⟨t, .buf (cellsT u)⟩) else none :=
  stT_len _ _ _ _ _ _ _ rfl (cellsT_len v) (cellsT_len u)
theorem ldT_u (t k : Nat) (u : T) : ldE Try.prog 28 ⟨t, .buf (cellsT u)⟩ k 0 = if t = k then some (.agg (cellsT u)) else none := by
  obtain ⟨a, b, c, d, e, f, g, h⟩ := u
  simp only [cellsT]
  exact ldT_a _ _ _ _ _ _ _ _
theorem callA_tip {cfg : Cfg} {call : FuncId → List Arg → Option Out} {D : Nat} {f : FuncId} {xs ys o : List AV} {kd : IntKind} {z : Int} {r : AV} (hc : call f [.tree (.agg ys), .tree (.int kd z), .ptr xs 0] = some (.tree r, [[], [], o])) (s : St) (p t : Nat) (hs : s p = ⟨t, .buf xs⟩) :
    callA cfg call D s f [.agg ys, .int kd z, .ptr p t 0] = some (r, upd s p ⟨t, .buf o⟩) := by
  simp [callA, argsA, argA, hs, givesL, givesOf, lendsL, lendsOf, hc, backA, resA]
theorem outs_3 (a b : AV) (xs ys : List AV) (s : St) (h : s 2 = ⟨0, .buf ys⟩) : outsA s 0 [.tree a, .tree b, .ptr xs 0] = some [[], [], ys] := by
  simp only [outsA, h, Option.bind_some, Option.map_some]
set_option maxHeartbeats 16000000 in
theorem tcheck_eq (n : Nat) (hn : 100 ≤ n) (hn2 : n ≤ 1000000) : ∀ (d : Nat) (t0 : T) (deep l0 : Int), htT t0 ≤ d → nodT t0 < n → wfT t0 → 0 ≤ deep → deep ≤ 1000 → 0 ≤ l0 → l0 ≤ 1000000 →
    evalFn Try.prog cfg0 n (d+3) 45 [.tree (encT t0), .tree (.int .i64 deep), .ptr [.int .i64 l0] 0] = some (.tree (.bool (chkT t0 deep l0).1), [[], [], [.int .i64 (chkT t0 deep l0).2]])
  | d, t0, deep, l0, hd, hnd, hw, h1, h2, h3, h4 => by
    have IH : ∀ (t : T) (deep l0 : Int), htT t + 1 ≤ d → nodT t < n → wfT t → 0 ≤ deep → deep ≤ 1000 → 0 ≤ l0 → l0 ≤ 1000000 →
      evalFn Try.prog cfg0 n (d+2) 45 [.tree (encT t), .tree (.int .i64 deep), .ptr [.int .i64 l0] 0] = some (.tree (.bool (chkT t deep l0).1), [[], [], [.int .i64 (chkT t deep l0).2]]) := by
      intro t deep l0 g1 g2 g3 g4 g5 g6 g7
      match d, g1 with
      | d + 1, g1 => exact tcheck_eq n hn hn2 d t deep l0 (by omega) g2 g3 g4 g5 g6 g7
    rw [evalFn_go _ Try.func45 (by unfold Try.f45; rfl) (by unfold Try.f45; decide) (Nat.le_of_ble_eq_true (by unfold Try.f45; rfl)) (by kernel_rfl)]
    simp only [simB, zbo, Nat.reduceBEq, own0, ↓reduceIte, Nat.reduceEqDiff, Nat.reduceAdd, simA, simN, Nat.zero_add, encT, den_loop]
    refine loop_ends (X := T × Int) (fun x env s => env 1 = .int .i64 deep ∧ env 2 = .ptr 2 0 0 ∧ env 3 = .ptr 3 1 0 ∧ s 3 = ⟨1, .buf (cellsT x.1)⟩ ∧ s 2 = ⟨0, .buf [.int .i64 x.2]⟩ ∧ htT x.1 ≤ d ∧ nodT x.1 < n ∧ wfT x.1 ∧ 0 ≤ x.2 ∧ x.2 ≤ 1000000) (fun x => nodT x.1) (fun x => (.tree (.bool (chkT x.1 deep x.2).1), [[], [], [.int .i64 (chkT x.1 deep x.2).2]])) ?_ n (t0, l0) _ _ hnd ⟨(by simp only [zfk, ↓reduceIte, Nat.reduceEqDiff]; try rfl), (by simp only [zfk, ↓reduceIte, Nat.reduceEqDiff]; try rfl), (by simp only [zfk, ↓reduceIte, Nat.reduceEqDiff]; try rfl), (by simp only [zfk, ↓reduceIte, Nat.reduceEqDiff]; try rfl), (by simp only [zfk, ↓reduceIte, Nat.reduceEqDiff]; try rfl), hd, hnd, hw, h3, h4⟩
    rintro rd ⟨t, left⟩ hrd ih env st ⟨e1, e2, e3, j3, j2, hht, hnod, hwf, hl0, hl1⟩
    simp only at j3 j2 hht hnod hwf hl0 hl1
    obtain ⟨k, b, lg, l, s, m, kg, ks⟩ := t
    have hL : Limbs l := by simp only [wfT] at hwf; exact hwf.1
    have f0 := i_sub Try.prog 3 left 1 (by omega) (by omega)
    have co := fun D st => callA_trees (cfg := cfg0) (d := D) (s := st) (f := 80) (vs := [encT (.mk k b lg l s m kg ks)]) rfl (own_eq n d hn k b lg l hL s m kg ks)
    simp only [encT, cellsT] at co
    simp only [cellsT] at j3
    by_cases g1 : left - 1 < 0
    · have hr : chkT (.mk k b lg l s m kg ks) deep left = (false, left - 1) := by simp only [chkT]; rw [if_pos (.inl g1)]
      simp only [hr]
      simp only [simB, zbo, Nat.reduceBEq, own0, ↓reduceIte, Nat.reduceEqDiff, Nat.reduceAdd, simL, simN, Nat.zero_add, opA_nilc, nilE_ptr, cellsE_buf, Option.isSome_some, e1, e2, e3, j2, j3, ldI1, st_I, stI_buf, f0, g1]
      exact finish_b _ _ _ _ _ _ _ (by simp only [zfk, ↓reduceIte, Nat.reduceEqDiff]; try rfl) (outs_3 _ _ _ _ _ (by simp only [zfk, ↓reduceIte, Nat.reduceEqDiff]; try rfl))
    by_cases g2 : deep > 60
    · have hr : chkT (.mk k b lg l s m kg ks) deep left = (false, left - 1) := by simp only [chkT]; rw [if_pos (.inr (.inl g2))]
      simp only [hr]
      simp only [simB, zbo, Nat.reduceBEq, own0, ↓reduceIte, Nat.reduceEqDiff, Nat.reduceAdd, simL, simN, Nat.zero_add, opA_nilc, nilE_ptr, cellsE_buf, Option.isSome_some, e1, e2, e3, j2, j3, ldI1, st_I, stI_buf, f0, g1, g2]
      exact finish_b _ _ _ _ _ _ _ (by simp only [zfk, ↓reduceIte, Nat.reduceEqDiff]; try rfl) (outs_3 _ _ _ _ _ (by simp only [zfk, ↓reduceIte, Nat.reduceEqDiff]; try rfl))
    cases g3 : ownT (.mk k b lg l s m kg ks) with
    | false =>
      have hr : chkT (.mk k b lg l s m kg ks) deep left = (false, left - 1) := by simp only [chkT]; rw [if_pos (.inr (.inr g3))]
      rw [g3] at co
      simp only [hr]
      simp only [simB, zbo, Nat.reduceBEq, own0, ↓reduceIte, Nat.reduceEqDiff, Nat.reduceAdd, simL, simN, Nat.zero_add, opA_nilc, nilE_ptr, cellsE_buf, Option.isSome_some, e1, e2, e3, j2, j3, ldI1, st_I, stI_buf, f0, g1, g2, ldT_a, co, unA_not', Bool.not_false]
      exact finish_b _ _ _ _ _ _ _ (by simp only [zfk, ↓reduceIte, Nat.reduceEqDiff]; try rfl) (outs_3 _ _ _ _ _ (by simp only [zfk, ↓reduceIte, Nat.reduceEqDiff]; try rfl))
    | true =>
      rw [g3] at co
      have hg : ¬ (left - 1 < 0 ∨ deep > 60 ∨ ownT (.mk k b lg l s m kg ks) = false) := by rw [g3]; simp only [g1, g2, false_or]; decide
      have hgo : ∀ (K : Kont) (env : Env) (st : St) (i : Nat) (kid : T) (r : List T) (kl : List T), kl.drop i = kid :: r → i < kl.length := by
        intro K env st i kid r kl hd
        have := congrArg List.length hd
        simp only [List.length_drop, List.length_cons] at this
        omega
      by_cases hk : k = 4
      · obtain ⟨x, y, rfl⟩ := own_kids g3 hk
        subst hk
        have hwk : wfK [x, y] := by simp only [wfT] at hwf; exact hwf.2
        simp only [wfK, and_true] at hwk
        have hhk : max (htT x) (htT y) + 1 ≤ d := by simp only [htT, htK] at hht; omega
        have hnk : nodT x + nodT y + 1 < n := by simp only [nodT, nodK] at hnod; omega
        have hnk2 : nodT (.mk 4 b lg l s m kg [x, y]) = nodT x + nodT y + 1 := by simp only [nodT, nodK]; omega
        have hr : chkT (.mk 4 b lg l s m kg [x, y]) deep left = if (chkT x (deep + 1) (left - 1)).1 = true then chkT y deep (chkT x (deep + 1) (left - 1)).2 else chkT x (deep + 1) (left - 1) := by
          simp only [chkT]; rw [if_neg hg]; simp only [↓reduceIte, chkC, chkL]
        have hk' : ((4 : Int) == 4) = true := rfl
        simp only [List.length_cons, List.length_nil, Nat.zero_add, Nat.reduceAdd] at co
        have hk2 : ((4 : Int) != 4) = false := rfl
        have s1 := fun st => sl_K1 st x y (gr kg)
        have w1 : ∀ st, lenA Try.prog 26 st (.sl (cellsK [x]) 1 .loose) = some (.int .i64 1) := fun st => lenTk st _ 1 _
        simp only [simB, zbo, Nat.reduceBEq, own0, ↓reduceIte, Nat.reduceEqDiff, Nat.reduceAdd, simL, simN, Nat.zero_add, opA_nilc, nilE_ptr, cellsE_buf, Option.isSome_some, e1, e2, e3, j2, j3, ldI1, st_I, stI_buf, f0, g1, g2, ldT_a, co, unA_not', Bool.not_true, faT_0, faT_4, ldT_0, ldT_4, i_eqlV, hk', s1, w1, lenTk, den_loop, List.length_cons, List.length_nil, Nat.zero_add, Nat.reduceAdd]
        refine loop_ends (X := Bool) (fun z env s' => env 1 = .int .i64 deep ∧ env 2 = .ptr 2 0 0 ∧ env 3 = .ptr 3 1 0 ∧ env 35 = .sl (cellsK [x]) 1 .loose ∧ env 36 = .int .i64 1 ∧ env 37 = .int .i64 (if z = true then 1 else 0) ∧ s' 3 = ⟨1, .buf (cellsT (.mk 4 b lg l s m kg [x, y]))⟩ ∧ s' 2 = ⟨0, .buf [.int .i64 (if z = true then (chkT x (deep + 1) (left - 1)).2 else left - 1)]⟩ ∧ (z = true → (chkT x (deep + 1) (left - 1)).1 = true)) (fun z => if z = true then 0 else 1) (fun _ => (.tree (.bool (chkT (.mk 4 b lg l s m kg [x, y]) deep left).1), [[], [], [.int .i64 (chkT (.mk 4 b lg l s m kg [x, y]) deep left).2]])) ?_ n false _ _ (by simp only [Bool.false_eq_true, ↓reduceIte]; omega) ⟨(by simp only [zfk, ↓reduceIte, Nat.reduceEqDiff, e1]; try rfl), (by simp only [zfk, ↓reduceIte, Nat.reduceEqDiff, e2]; try rfl), (by simp only [zfk, ↓reduceIte, Nat.reduceEqDiff, e3]; try rfl), (by simp only [zfk, ↓reduceIte, Nat.reduceEqDiff]; try rfl), (by simp only [zfk, ↓reduceIte, Nat.reduceEqDiff]; try rfl), (by simp only [zfk, ↓reduceIte, Nat.reduceEqDiff]; try rfl), by simp only [cellsT]; exact (by simp only [zfk, ↓reduceIte, Nat.reduceEqDiff, j3]; try rfl), (by simp only [zfk, ↓reduceIte, Nat.reduceEqDiff]; try rfl), by intro h; cases h⟩
        rintro rr (_ | _) hrr ih2 env st ⟨e1, e2, e3, e35, e36, e37, j3, j2, hz⟩
        · simp only [Bool.false_eq_true, ↓reduceIte] at e37 j2
          have q1 : (0 : Int) < 1 := by decide
          have f5 := i_add Try.prog 3 0 1 (by omega) (by omega)
          have f6 := i_add Try.prog 3 deep 1 (by omega) (by omega)
          have cc := fun D => callA_tip (cfg := cfg0) (D := D) (IH x (deep + 1) (left - 1) (by omega) (by omega) hwk.1 (by omega) (by omega) (by omega) (by omega))
          have ia : ∀ st, indexAddrA Try.prog 26 st (.sl (cellsK [x]) 1 .loose) (.int .i64 0) = some (.rptr (cellsK [x])) := fun st => ia_K st [x] .loose 0 (Nat.zero_lt_succ _)
          have ld := fun st => ld_K st x []
          simp only [encT] at ld
          cases hx : (chkT x (deep + 1) (left - 1)).1 with
          | false =>
            rw [hx] at hr cc
            simp only [Bool.false_eq_true, ↓reduceIte] at hr
            rw [hr, hx]
            simp only [simB, zbo, Nat.reduceBEq, own0, ↓reduceIte, Nat.reduceEqDiff, Nat.reduceAdd, simL, simN, Nat.zero_add, opA_nilc, nilE_ptr, cellsE_buf, Option.isSome_some, e1, e2, e3, e35, e36, e37, j2, j3, q1, ia, ld, zeroT, st_Tt, stT_6, ldT_u, f6, cc, unA_not', Bool.not_false]
            exact finish_b _ _ _ _ _ _ _ (by simp only [zfk, ↓reduceIte, Nat.reduceEqDiff]; try rfl) (outs_3 _ _ _ _ _ (by simp only [zfk, ↓reduceIte, Nat.reduceEqDiff]; try rfl))
          | true =>
            rw [hx] at cc
            simp only [simB, zbo, Nat.reduceBEq, own0, ↓reduceIte, Nat.reduceEqDiff, Nat.reduceAdd, simL, simN, Nat.zero_add, opA_nilc, nilE_ptr, cellsE_buf, Option.isSome_some, e1, e2, e3, e35, e36, e37, j2, j3, q1, ia, ld, zeroT, st_Tt, stT_6, ldT_u, f6, cc, unA_not', Bool.not_true, f5]
            exact ih2 true _ _ (by decide) rfl ⟨(by simp only [zfk, ↓reduceIte, Nat.reduceEqDiff, e1]; try rfl), (by simp only [zfk, ↓reduceIte, Nat.reduceEqDiff, e2]; try rfl), (by simp only [zfk, ↓reduceIte, Nat.reduceEqDiff, e3]; try rfl), (by simp only [zfk, ↓reduceIte, Nat.reduceEqDiff, e35]; try rfl), (by simp only [zfk, ↓reduceIte, Nat.reduceEqDiff, e36]; try rfl), (by simp only [zfk, ↓reduceIte, Nat.reduceEqDiff]; try rfl), (by simp only [zfk, ↓reduceIte, Nat.reduceEqDiff, j3]; try rfl), (by simp only [zfk, ↓reduceIte, Nat.reduceEqDiff]; try rfl), fun _ => hx⟩
        · simp only [↓reduceIte] at e37 j2
          have hx := hz rfl
          have hcn := chkT_nod x (deep + 1) (left - 1) hx
          rw [hx] at hr
          simp only [↓reduceIte] at hr
          have q1 : ¬ (1 : Int) < 1 := by decide
          have ia : ∀ st, indexAddrA Try.prog 26 st (.sl (cellsK [x, y]) 2 (gr kg)) (.int .i64 1) = some (.rptr (cellsK [y])) := fun st => ia_K st [x, y] (gr kg) 1 (Nat.lt_succ_self _)
          have ld := fun st => ld_K st y []
          simp only [encT] at ld
          simp only [cellsT] at j3
          simp only [simB, zbo, Nat.reduceBEq, own0, ↓reduceIte, Nat.reduceEqDiff, Nat.reduceAdd, simL, simN, Nat.zero_add, opA_nilc, nilE_ptr, cellsE_buf, Option.isSome_some, e1, e2, e3, e35, e36, e37, j2, j3, q1, faT_0, faT_4, ldT_0, ldT_4, hk2, ia, ld, st_Tt, stT_6, List.length_cons, List.length_nil, Nat.zero_add, Nat.reduceAdd]
          exact ih (y, (chkT x (deep + 1) (left - 1)).2) _ _ (by simp only; omega) (by simp only [hr]) ⟨(by simp only [zfk, ↓reduceIte, Nat.reduceEqDiff, e1]; try rfl), (by simp only [zfk, ↓reduceIte, Nat.reduceEqDiff, e2]; try rfl), (by simp only [zfk, ↓reduceIte, Nat.reduceEqDiff, e3]; try rfl), (by simp only [zfk, ↓reduceIte, Nat.reduceEqDiff]; try rfl), (by simp only [zfk, ↓reduceIte, Nat.reduceEqDiff, j2]; try rfl), by simp only; omega, by simp only; omega, hwk.2, by simp only; omega, by simp only; omega⟩
      · have hr : chkT (.mk k b lg l s m kg ks) deep left = chkK ks (deep + 1) (left - 1) := by simp only [chkT]; rw [if_neg hg, if_neg hk]
        have hk' : (k == 4) = false := by rw [beq_eq_false_iff_ne]; exact hk
        have hk2 : (k != 4) = true := by rw [bne, hk']; rfl
        have hwk : wfK ks := by simp only [wfT] at hwf; exact hwf.2
        have hhk : htK ks + 1 ≤ d := by simp only [htT] at hht; exact hht
        have hnk : nodK ks + 1 < n := by simp only [nodT] at hnod; exact hnod
        simp only [hr]
        generalize hR : chkK ks (deep + 1) (left - 1) = R
        simp only [simB, zbo, Nat.reduceBEq, own0, ↓reduceIte, Nat.reduceEqDiff, Nat.reduceAdd, simL, simN, Nat.zero_add, opA_nilc, nilE_ptr, cellsE_buf, Option.isSome_some, e1, e2, e3, j2, j3, ldI1, st_I, stI_buf, f0, g1, g2, ldT_a, co, unA_not', Bool.not_true, faT_0, faT_4, ldT_0, ldT_4, i_eqlV, hk', lenTk, den_loop]
        refine loop_ends (X := Nat × Int) (fun x env s' => env 1 = .int .i64 deep ∧ env 2 = .ptr 2 0 0 ∧ env 3 = .ptr 3 1 0 ∧ env 35 = .sl (cellsK ks) ks.length (gr kg) ∧ env 36 = .int .i64 (ks.length : Int) ∧ env 37 = .int .i64 (x.1 : Int) ∧ s' 3 = ⟨1, .buf (cellsT (.mk k b lg l s m kg ks))⟩ ∧ s' 2 = ⟨0, .buf [.int .i64 x.2]⟩ ∧ x.1 ≤ ks.length ∧ 0 ≤ x.2 ∧ x.2 ≤ 1000000 ∧ chkK (ks.drop x.1) (deep + 1) x.2 = R) (fun x => ks.length - x.1) (fun _ => (.tree (.bool R.1), [[], [], [.int .i64 R.2]])) ?_ n (0, left - 1) _ _ (by have := nodK_len ks; simp only; omega) ⟨(by simp only [zfk, ↓reduceIte, Nat.reduceEqDiff, e1]; try rfl), (by simp only [zfk, ↓reduceIte, Nat.reduceEqDiff, e2]; try rfl), (by simp only [zfk, ↓reduceIte, Nat.reduceEqDiff, e3]; try rfl), (by simp only [zfk, ↓reduceIte, Nat.reduceEqDiff]; try rfl), (by simp only [zfk, ↓reduceIte, Nat.reduceEqDiff]; try rfl), (by simp only [zfk, ↓reduceIte, Nat.reduceEqDiff]; try rfl), by simp only [cellsT]; exact (by simp only [zfk, ↓reduceIte, Nat.reduceEqDiff, j3]; try rfl), (by simp only [zfk, ↓reduceIte, Nat.reduceEqDiff]; try rfl), Nat.zero_le _, by simp only; omega, by simp only; omega, hR⟩
        rintro rr ⟨i, lf⟩ hrr ih2 env st ⟨e1, e2, e3, e35, e36, e37, j3, j2, hi, hlf0, hlf1, hc⟩
        simp only at e37 j2 hi hlf0 hlf1 hc
        cases hd : ks.drop i with
        | nil =>
          have hil : i = ks.length := by have := congrArg List.length hd; simp only [List.length_drop, List.length_nil] at this; omega
          rw [hd] at hc
          simp only [chkK] at hc
          subst hc
          have q1 : ¬ ((i : Int) < (ks.length : Int)) := by omega
          simp only [cellsT] at j3
          simp only [simB, zbo, Nat.reduceBEq, own0, ↓reduceIte, Nat.reduceEqDiff, Nat.reduceAdd, simL, simN, Nat.zero_add, opA_nilc, nilE_ptr, cellsE_buf, Option.isSome_some, e1, e2, e3, e35, e36, e37, j2, j3, q1, faT_0, faT_4, ldT_0, ldT_4, hk2]
          exact finish_b _ _ _ _ _ _ _ (by simp only [zfk, ↓reduceIte, Nat.reduceEqDiff]; try rfl) (outs_3 _ _ _ _ _ (by simp only [zfk, ↓reduceIte, Nat.reduceEqDiff, j2]; try rfl))
        | cons kid r =>
          have hil : i < ks.length := by have := congrArg List.length hd; simp only [List.length_drop, List.length_cons] at this; omega
          rw [hd] at hc
          simp only [chkK] at hc
          have q1 : (i : Int) < (ks.length : Int) := by omega
          have f5 := i_add Try.prog 3 (i : Int) 1 (by omega) (by have := nodK_len ks; omega)
          have f6 := i_add Try.prog 3 deep 1 (by omega) (by omega)
          have kh := kids_ht ks i kid r hd
          have kn := kids_nod ks i kid r hd
          have kw := kids_wf ks i kid r hd hwk
          have cc := fun D => callA_tip (cfg := cfg0) (D := D) (IH kid (deep + 1) lf (by omega) (by omega) kw (by omega) (by omega) hlf0 hlf1)
          have ia := fun st => ia_K st ks (gr kg) i hil
          rw [hd] at ia
          have ld := fun st => ld_K st kid r
          simp only [encT] at ld
          cases hx : (chkT kid (deep + 1) lf).1 with
          | false =>
            rw [hx] at hc cc
            simp only [Bool.false_eq_true, ↓reduceIte] at hc
            rw [← hc, hx]
            simp only [simB, zbo, Nat.reduceBEq, own0, ↓reduceIte, Nat.reduceEqDiff, Nat.reduceAdd, simL, simN, Nat.zero_add, opA_nilc, nilE_ptr, cellsE_buf, Option.isSome_some, e1, e2, e3, e35, e36, e37, j2, j3, q1, ia, ld, zeroT, st_Tt, stT_6, ldT_u, f6, cc, unA_not', Bool.not_false]
            exact finish_b _ _ _ _ _ _ _ (by simp only [zfk, ↓reduceIte, Nat.reduceEqDiff]; try rfl) (outs_3 _ _ _ _ _ (by simp only [zfk, ↓reduceIte, Nat.reduceEqDiff]; try rfl))
          | true =>
            rw [hx] at hc cc
            simp only [↓reduceIte] at hc
            have hcn := chkT_nod kid (deep + 1) lf hx
            simp only [simB, zbo, Nat.reduceBEq, own0, ↓reduceIte, Nat.reduceEqDiff, Nat.reduceAdd, simL, simN, Nat.zero_add, opA_nilc, nilE_ptr, cellsE_buf, Option.isSome_some, e1, e2, e3, e35, e36, e37, j2, j3, q1, ia, ld, zeroT, st_Tt, stT_6, ldT_u, f6, cc, unA_not', Bool.not_true, f5]
            refine ih2 (i + 1, (chkT kid (deep + 1) lf).2) _ _ (by simp only; omega) rfl ⟨?_, ?_, ?_, ?_, ?_, ?_, ?_, ?_, by simp only; omega, by simp only; omega, by simp only; omega, by simp only; rw [drop_next hd]; exact hc⟩
            · simp only [zfk, ↓reduceIte, Nat.reduceEqDiff, e1]
            · simp only [zfk, ↓reduceIte, Nat.reduceEqDiff, e2]
            · simp only [zfk, ↓reduceIte, Nat.reduceEqDiff, e3]
            · simp only [zfk, ↓reduceIte, Nat.reduceEqDiff, e35]
            · simp only [zfk, ↓reduceIte, Nat.reduceEqDiff, e36]
            · simp only [zfk, ↓reduceIte, Nat.reduceEqDiff]; rfl
            · simp only [zfk, ↓reduceIte, Nat.reduceEqDiff, j3]
            · simp only [zfk, ↓reduceIte, Nat.reduceEqDiff]
end Go.Ab

/- term.Check, term.Nodes. Conditions: limbs in range; so many nodes at most. -/
namespace Go.Ab
open Go.Proofs
set_option maxRecDepth 100000
set_option linter.unusedSimpArgs false

theorem zeroI : zeroOf Try.prog 3 = some [.int .i64 0] := by kernel_rfl
theorem tCheck_eq (n : Nat) (hn : 100 ≤ n) (hn2 : n ≤ 1000000) (d : Nat) (t : T) (hd : htT t ≤ d) (hnd : nodT t < n) (hw : wfT t) :
    evalFn Try.prog cfg0 n (d+4) 27 [.tree (encT t)] = some (.tree (.bool (chkT t 1 2000).1), [[]]) := by
  rw [evalFn_go _ Try.func27 (by unfold Try.f27; rfl) (by unfold Try.f27; decide) (Nat.le_of_ble_eq_true (by unfold Try.f27; rfl)) (by kernel_rfl)]
  have cc := fun D => callA_tip (cfg := cfg0) (D := D) (tcheck_eq n hn hn2 d t 1 2000 hd hnd hw (by decide) (by decide) (by decide) (by decide))
  simp only [simB, zbo, Nat.reduceBEq, own0, ↓reduceIte, Nat.reduceEqDiff, Nat.reduceAdd, simA, simN, Nat.zero_add, encT, zeroI, st_I, stI_buf, ldT_u, cc]
  exact finish_b _ _ _ _ _ _ _ (by simp only [zfk, ↓reduceIte, Nat.reduceEqDiff]; try rfl) rfl
end Go.Ab

/- What comparing terms needs. No conditions but limbs in range. -/
namespace Go.Ab
open Go.Proofs
set_option maxRecDepth 100000
set_option linter.unusedSimpArgs false

def three (a b : Int) : Int := if a < b then -1 else if b < a then 1 else 0
theorem finish_cT (k : Bool) (xs : List Arg) (a p e : Nat) (u : T) (env : Env) (s : St) (os : List (List AV)) (ha : env a = .ptr p e 0) (hs : s p = ⟨e, .buf (cellsT u)⟩) (ho : outsA s 0 xs = some os) :
    finishP Try.prog k xs #[.cell a 28] env s = some (.tree (encT u), os) := by
  have hl : loadA Try.prog 28 s (env a) = some (.agg (cellsT u)) := by rw [ha, zeo, hs, ldT_u, if_pos rfl]
  simp [finishP, isTmpR, hl, settle, ho, encT]
end Go.Ab

/- term.Cmp upon terms that may be. Conditions: terms that may be; so many nodes at most. -/
namespace Go.Ab
open Go.Proofs
set_option maxRecDepth 100000
set_option linter.unusedSimpArgs false

mutual
def goodT : T → Prop
  | .mk k b lg l s n kg ks => Limbs l ∧ ownT (.mk k b lg l s n kg ks) = true ∧ goodK ks
def goodK : List T → Prop
  | [] => True
  | t :: r => goodT t ∧ goodK r
end
def kindT : T → Int
  | .mk k _ _ _ _ _ _ _ => k
def strT : T → List UInt8
  | .mk _ _ _ _ s _ _ _ => s
def kidsT : T → List T
  | .mk _ _ _ _ _ _ _ ks => ks
end Go.Ab

/- term.Cmp upon terms that may be, walked. Conditions: terms that may be; so many nodes at most. -/
namespace Go.Ab
open Go.Proofs
set_option maxRecDepth 100000
set_option linter.unusedSimpArgs false

theorem good_own {k : Int} {b : Bool} {lg : Gk} {l : List Nat} {s : List UInt8} {n : Int} {kg : Gk} {ks : List T} (h : goodT (.mk k b lg l s n kg ks)) : Limbs l ∧ ownT (.mk k b lg l s n kg ks) = true ∧ goodK ks := by
  simp only [goodT] at h
  exact h
end Go.Ab

/- term.Same, walked. Conditions: so many limbs, nodes at most. -/
namespace Go.Ab
open Go.Proofs
set_option maxRecDepth 100000
set_option linter.unusedSimpArgs false

theorem ldB_1 (t k : Nat) (a b c d e f : AV) : ldE Try.prog 4 ⟨t, .buf [a, b, c, d, e, f]⟩ k 1 = if t = k then some b else none := by
  rw [ldE_buf, cellsE_buf]
  by_cases h : t = k
  · simp [h, partA, sh4]
  · simp [h]
theorem ldB_2 (t k : Nat) (a b c d e f : AV) : ldE Try.prog 23 ⟨t, .buf [a, b, c, d, e, f]⟩ k 2 = if t = k then some c else none := by
  rw [ldE_buf, cellsE_buf]
  by_cases h : t = k
  · simp [h, partA, sh22]
  · simp [h]
mutual
def fewT (m : Nat) : T → Prop
  | .mk _ _ _ l _ _ _ ks => l.length < m ∧ ks.length < m ∧ fewK m ks
def fewK (m : Nat) : List T → Prop
  | [] => True
  | t :: r => fewT m t ∧ fewK m r
end
theorem fewK_at (m : Nat) : ∀ (ks : List T) (i : Nat) (t : T) (r : List T), ks.drop i = t :: r → fewK m ks → fewT m t
  | [], i, t, r, h, _ => by simp at h
  | a :: q, 0, t, r, h, hw => by simp only [List.drop_zero, List.cons.injEq] at h; obtain ⟨rfl, rfl⟩ := h; simp only [fewK] at hw; exact hw.1
  | a :: q, i + 1, t, r, h, hw => by simp only [fewK] at hw; exact fewK_at m q i t r (by simpa using h) hw.2
end Go.Ab

/- The document's own check of a term by itself. Conditions: limbs in range; a text shorter than the rounds. -/
namespace Go.Ab
open Go.Proofs
set_option maxRecDepth 100000
set_option linter.unusedSimpArgs false

def badT (m k : Int) (b : Bool) (l : List Nat) (s : List UInt8) : Bool := (m != 0) || ((k != 1) && !zeroB b l) || ((k != 2) && (k != 6) && !(s == []))
def ownS (k : Int) (b : Bool) (l : List Nat) (s : List UInt8) (c : Nat) : Bool :=
  if k = 1 then chkN b l && decide (c = 0) else if k = 2 then s.all okC && (decide (1 ≤ s.length) && decide (s.length ≤ 40) && decide (c = 0)) else if k = 3 then decide (c = 0) else if k = 4 then decide (c = 2) else if k = 5 then decide (c ≤ 40)
  else if k = 6 then decide (s.length ≤ 400) && decide (c = 0) else false
theorem own_split (k : Int) (b : Bool) (lg : Gk) (l : List Nat) (s : List UInt8) (m : Int) (kg : Gk) (ks : List T) :
    ownT (.mk k b lg l s m kg ks) = (!badT m k b l s && ownS k b l s ks.length) := by
  unfold badT ownS
  simp only [ownT]
  by_cases h1 : k = 1
  · subst h1; cases hs : s == [] <;> cases hc : chkN b l <;> by_cases hm : m = 0 <;> simp [hm, hs]
  by_cases h2 : k = 2
  · subst h2
    unfold nameB
    cases hz : zeroB b l <;> by_cases hm : m = 0 <;> simp [hm] <;> cases s.all okC <;> simp
  by_cases h3 : k = 3
  · subst h3; cases hz : zeroB b l <;> cases hs : s == [] <;> by_cases hm : m = 0 <;> simp [hm, hs]
  by_cases h4 : k = 4
  · subst h4; cases hz : zeroB b l <;> cases hs : s == [] <;> by_cases hm : m = 0 <;> simp [hm, hs]
  by_cases h5 : k = 5
  · subst h5; cases hz : zeroB b l <;> cases hs : s == [] <;> by_cases hm : m = 0 <;> simp [hm, hs]
  by_cases h6 : k = 6
  · subst h6; cases hz : zeroB b l <;> by_cases hm : m = 0 <;> simp [hm]
  have hk : ¬ (1 ≤ k ∧ k ≤ 6) := by omega
  simp only [decide_eq_false hk, Bool.false_and, h1, h2, h3, h4, h5, h6, ↓reduceIte, Bool.and_false]
theorem i_neqV (x y : Int) : binA Try.prog .neq 3 (.int .i64 x) (.int .i64 y) = some (.bool (x != y)) := rfl
set_option maxHeartbeats 32000000 in
theorem fields_eq (n d : Nat) (k : Int) (b : Bool) (lg : Gk) (l : List Nat) (hl : Limbs l) (s : List UInt8) (hs : s.length < n) (hs2 : s.length ≤ 9223372036854775807) (m : Int) (kg : Gk) (ks : List T) :
    evalFn Try.prog cfg0 n (d+2) 68 [.tree (encT (.mk k b lg l s m kg ks))] = some (.tree (.bool (ownT (.mk k b lg l s m kg ks))), [[]]) := by
  rw [own_split]
  rw [evalFn_go _ Try.func68 (by unfold Try.f68; rfl) (by unfold Try.f68; decide) (Nat.le_of_ble_eq_true (by unfold Try.f68; rfl)) (by kernel_rfl)]
  have c1 := fun D st => callA_trees (cfg := cfg0) (d := D) (s := st) (f := 87) (vs := [.agg [.bool b, encL lg l]]) rfl (rcheck_eq n d b lg l hl)
  rw [den_assoc, den_assoc]
  refine seq_cut (fun env st => env 1 = .ptr 1 1 0 ∧ st 1 = ⟨1, .buf (cellsT (.mk k b lg l s m kg ks))⟩ ∧ badT m k b l s = false) ?_ ?_
  · intro env st ⟨e1, j1, hb⟩
    rw [hb, Bool.not_false, Bool.true_and]
    simp only [cellsT] at j1
    unfold ownS
    by_cases h1 : k = 1
    · subst h1
      have b1 : ((1 : Int) == 1) = true := rfl
      simp only [↓reduceIte]
      cases hc : chkN b l with
      | true =>
        rw [hc] at c1
        simp only [Bool.true_and]
        simp only [simB, zbo, Nat.reduceBEq, own0, ↓reduceIte, Nat.reduceEqDiff, Nat.reduceAdd, simA, simL, zex, List.toList_toArray, len9, ix9, zey, zez, zfa, zfb, zfc, simN, Nat.zero_add, e1, j1, faT_0, faT_1, faT_2, faT_4, ldT_0, ldT_1, ldT_2, ldT_4, c1, lenTk, natEq0, i_eqlV, b1]
        exact finish_b _ _ _ _ _ _ _ (by simp only [zfk, ↓reduceIte, Nat.reduceEqDiff]; try rfl) rfl
      | false =>
        rw [hc] at c1
        simp only [Bool.false_and]
        simp only [simB, zbo, Nat.reduceBEq, own0, ↓reduceIte, Nat.reduceEqDiff, Nat.reduceAdd, simA, simL, zex, List.toList_toArray, len9, ix9, zey, zez, zfa, zfb, zfc, simN, Nat.zero_add, e1, j1, faT_0, faT_1, faT_2, faT_4, ldT_0, ldT_1, ldT_2, ldT_4, c1, lenTk, natEq0, i_eqlV, b1]
        exact finish_b _ _ _ _ _ _ _ (by simp only [zfk, ↓reduceIte, Nat.reduceEqDiff]; try rfl) rfl
    have b1 : (k == 1) = false := beq_eq_false_iff_ne.mpr h1
    by_cases h2 : k = 2
    · subst h2
      simp only [Int.reduceEq, ↓reduceIte]
      simp only [simB, zbo, Nat.reduceBEq, own0, ↓reduceIte, Nat.reduceEqDiff, Nat.reduceAdd, simA, simL, zex, List.toList_toArray, len9, ix9, zey, zez, zfa, zfb, zfc, simN, Nat.zero_add, e1, j1, faT_0, faT_1, faT_2, faT_4, ldT_0, ldT_1, ldT_2, ldT_4, i_eqlV, Int.reduceBEq, den_loop]
      refine loop_ends (X := Nat) (fun i env s' => env 1 = .ptr 1 1 0 ∧ env 4 = .int .i64 (i : Int) ∧ s' 1 = ⟨1, .buf (cellsT (.mk 2 b lg l s m kg ks))⟩ ∧ i ≤ s.length ∧ (s.take i).all okC = true) (fun i => s.length - i) (fun _ => (.tree (.bool (s.all okC && (decide (1 ≤ s.length) && decide (s.length ≤ 40) && decide (ks.length = 0)))), [[]])) ?_ n 0 _ _ (by omega) ⟨(by simp only [zfk, ↓reduceIte, Nat.reduceEqDiff, e1]; try rfl), (by simp only [zfk, ↓reduceIte, Nat.reduceEqDiff]; try rfl), by simp only [cellsT]; exact (by simp only [zfk, ↓reduceIte, Nat.reduceEqDiff, j1]; try rfl), Nat.zero_le _, rfl⟩
      intro r i hx ih env st ⟨e1, e4, j1, hi, ha⟩
      simp only [cellsT] at j1
      by_cases hp : i = s.length
      · subst hp
        have q1 : ¬ ((s.length : Int) < (s.length : Int)) := by omega
        rw [List.take_length] at ha
        rw [ha, Bool.true_and]
        by_cases g1 : 1 ≤ s.length
        · have g1' : (s.length : Int) ≥ 1 := by omega
          rw [decide_eq_true g1, Bool.true_and]
          by_cases g2 : s.length ≤ 40
          · have g2' : (s.length : Int) ≤ 40 := by omega
            rw [decide_eq_true g2, Bool.true_and]
            simp only [simB, zbo, Nat.reduceBEq, own0, ↓reduceIte, Nat.reduceEqDiff, Nat.reduceAdd, simL, zex, List.toList_toArray, len9, ix9, zey, zez, zfa, zfb, zfc, simN, Nat.zero_add, e1, e4, j1, faT_0, faT_2, faT_4, ldT_0, ldT_2, ldT_4, q1, g1', g2', lenTk, i_eqlV, natEq0]
            exact finish_b _ _ _ _ _ _ _ (by simp only [zfk, ↓reduceIte, Nat.reduceEqDiff]; try rfl) rfl
          · have g2' : ¬ (s.length : Int) ≤ 40 := by omega
            rw [decide_eq_false g2, Bool.false_and]
            simp only [simB, zbo, Nat.reduceBEq, own0, ↓reduceIte, Nat.reduceEqDiff, Nat.reduceAdd, simL, zex, List.toList_toArray, len9, ix9, zey, zez, zfa, zfb, zfc, simN, Nat.zero_add, e1, e4, j1, faT_0, faT_2, faT_4, ldT_0, ldT_2, ldT_4, q1, g1', g2', lenTk, i_eqlV, natEq0]
            exact finish_b _ _ _ _ _ _ _ (by simp only [zfk, ↓reduceIte, Nat.reduceEqDiff]; try rfl) rfl
        · have g1' : ¬ (s.length : Int) ≥ 1 := by omega
          rw [decide_eq_false g1, Bool.false_and, Bool.false_and]
          simp only [simB, zbo, Nat.reduceBEq, own0, ↓reduceIte, Nat.reduceEqDiff, Nat.reduceAdd, simL, zex, List.toList_toArray, len9, ix9, zey, zez, zfa, zfb, zfc, simN, Nat.zero_add, e1, e4, j1, faT_0, faT_2, faT_4, ldT_0, ldT_2, ldT_4, q1, g1', lenTk, i_eqlV, natEq0]
          exact finish_b _ _ _ _ _ _ _ (by simp only [zfk, ↓reduceIte, Nat.reduceEqDiff]; try rfl) rfl
      · have q1 : (i : Int) < (s.length : Int) := by omega
        have q2 : (0 : Int) ≤ (i : Int) ∧ (i : Int) < (s.length : Int) := by omega
        have f4 := i_add Try.prog 3 (i : Int) 1 (by omega) (by omega)
        have hst : s.take (i + 1) = s.take i ++ [s.getD i 0] := by
          rw [List.take_add_one, List.getD, List.getElem?_eq_getElem (by omega)]; rfl
        have ha1 : ∀ c, s.getD i 0 = c → okC c = true → (s.take (i + 1)).all okC = true := by
          intro c hc ho
          rw [hst, hc, List.all_append, ha]; simp [ho]
        have ha0 : ∀ c, s.getD i 0 = c → okC c = false → s.all okC = false := by
          intro c hc ho
          rw [List.all_eq_false]
          refine ⟨c, ?_, by rw [ho]; decide⟩
          rw [← hc, List.getD, List.getElem?_eq_getElem (by omega)]
          exact List.getElem_mem _
        generalize hc : s.getD i 0 = c at ha1 ha0
        replace ha1 := ha1 c rfl
        replace ha0 := ha0 c rfl
        by_cases c1 : (c.toNat : Int) < 33
        · rw [ha0 (by unfold okC; rw [decide_eq_false (by omega)]; rfl), Bool.false_and]
          simp only [simB, zbo, Nat.reduceBEq, own0, ↓reduceIte, Nat.reduceEqDiff, Nat.reduceAdd, simL, zex, List.toList_toArray, len9, ix9, zey, zez, zfa, zfb, zfc, simN, Nat.zero_add, e1, e4, j1, faT_0, faT_2, faT_4, ldT_0, ldT_2, ldT_4, q1, q2, and_self, Int.toNat_natCast, hc, c1]
          exact finish_b _ _ _ _ _ _ _ (by simp only [zfk, ↓reduceIte, Nat.reduceEqDiff]; try rfl) rfl
        by_cases c2 : (c.toNat : Int) > 126
        · rw [ha0 (by unfold okC; rw [decide_eq_false (p := c.toNat ≤ 126) (by omega)]; simp), Bool.false_and]
          simp only [simB, zbo, Nat.reduceBEq, own0, ↓reduceIte, Nat.reduceEqDiff, Nat.reduceAdd, simL, zex, List.toList_toArray, len9, ix9, zey, zez, zfa, zfb, zfc, simN, Nat.zero_add, e1, e4, j1, faT_0, faT_2, faT_4, ldT_0, ldT_2, ldT_4, q1, q2, and_self, Int.toNat_natCast, hc, c1, c2]
          exact finish_b _ _ _ _ _ _ _ (by simp only [zfk, ↓reduceIte, Nat.reduceEqDiff]; try rfl) rfl
        · have ha1 := ha1 (by unfold okC; rw [decide_eq_true (by omega), decide_eq_true (by omega)]; rfl)
          simp only [simB, zbo, Nat.reduceBEq, own0, ↓reduceIte, Nat.reduceEqDiff, Nat.reduceAdd, simL, zex, List.toList_toArray, len9, ix9, zey, zez, zfa, zfb, zfc, simN, Nat.zero_add, e1, e4, j1, faT_0, faT_2, faT_4, ldT_0, ldT_2, ldT_4, q1, q2, and_self, Int.toNat_natCast, hc, c1, c2, f4]
          exact ih (i + 1) _ _ (by omega) rfl ⟨(by simp only [zfk, ↓reduceIte, Nat.reduceEqDiff, e1]; try rfl), (by simp only [zfk, ↓reduceIte, Nat.reduceEqDiff]; try rfl), by simp only [cellsT]; exact (by simp only [zfk, ↓reduceIte, Nat.reduceEqDiff, j1]; try rfl), by omega, ha1⟩
    have b2 : (k == 2) = false := beq_eq_false_iff_ne.mpr h2
    by_cases h3 : k = 3
    · subst h3
      simp only [Int.reduceEq, ↓reduceIte]
      simp only [simB, zbo, Nat.reduceBEq, own0, ↓reduceIte, Nat.reduceEqDiff, Nat.reduceAdd, simA, simL, zex, List.toList_toArray, len9, ix9, zey, zez, zfa, zfb, zfc, simN, Nat.zero_add, e1, j1, faT_0, faT_4, ldT_0, ldT_4, lenTk, natEq0, i_eqlV, Int.reduceBEq]
      exact finish_b _ _ _ _ _ _ _ (by simp only [zfk, ↓reduceIte, Nat.reduceEqDiff]; try rfl) rfl
    have b3 : (k == 3) = false := beq_eq_false_iff_ne.mpr h3
    by_cases h4 : k = 4
    · subst h4
      simp only [Int.reduceEq, ↓reduceIte]
      simp only [simB, zbo, Nat.reduceBEq, own0, ↓reduceIte, Nat.reduceEqDiff, Nat.reduceAdd, simA, simL, zex, List.toList_toArray, len9, ix9, zey, zez, zfa, zfb, zfc, simN, Nat.zero_add, e1, j1, faT_0, faT_4, ldT_0, ldT_4, lenTk, natEq2, i_eqlV, Int.reduceBEq]
      exact finish_b _ _ _ _ _ _ _ (by simp only [zfk, ↓reduceIte, Nat.reduceEqDiff]; try rfl) rfl
    have b4 : (k == 4) = false := beq_eq_false_iff_ne.mpr h4
    by_cases h5 : k = 5
    · subst h5
      have e40 : decide (ks.length ≤ 40) = decide ((ks.length : Int) ≤ 40) := by rw [Bool.eq_iff_iff, decide_eq_true_eq, decide_eq_true_eq]; omega
      simp only [Int.reduceEq, ↓reduceIte, e40]
      simp only [simB, zbo, Nat.reduceBEq, own0, ↓reduceIte, Nat.reduceEqDiff, Nat.reduceAdd, simA, simL, zex, List.toList_toArray, len9, ix9, zey, zez, zfa, zfb, zfc, simN, Nat.zero_add, e1, j1, faT_0, faT_4, ldT_0, ldT_4, lenTk, i_eqlV, i_leqV, Int.reduceBEq]
      exact finish_b _ _ _ _ _ _ _ (by simp only [zfk, ↓reduceIte, Nat.reduceEqDiff]; try rfl) rfl
    have b5 : (k == 5) = false := beq_eq_false_iff_ne.mpr h5
    by_cases h6 : k = 6
    · subst h6
      simp only [Int.reduceEq, ↓reduceIte]
      by_cases g : s.length ≤ 400
      · have g' : (s.length : Int) ≤ 400 := by omega
        rw [decide_eq_true g, Bool.true_and]
        simp only [simB, zbo, Nat.reduceBEq, own0, ↓reduceIte, Nat.reduceEqDiff, Nat.reduceAdd, simA, simL, zex, List.toList_toArray, len9, ix9, zey, zez, zfa, zfb, zfc, simN, Nat.zero_add, e1, j1, faT_0, faT_2, faT_4, ldT_0, ldT_2, ldT_4, lenTk, natEq0, i_eqlV, Int.reduceBEq, g']
        exact finish_b _ _ _ _ _ _ _ (by simp only [zfk, ↓reduceIte, Nat.reduceEqDiff]; try rfl) rfl
      · have g' : ¬ (s.length : Int) ≤ 400 := by omega
        rw [decide_eq_false g, Bool.false_and]
        simp only [simB, zbo, Nat.reduceBEq, own0, ↓reduceIte, Nat.reduceEqDiff, Nat.reduceAdd, simA, simL, zex, List.toList_toArray, len9, ix9, zey, zez, zfa, zfb, zfc, simN, Nat.zero_add, e1, j1, faT_0, faT_2, faT_4, ldT_0, ldT_2, ldT_4, lenTk, natEq0, i_eqlV, Int.reduceBEq, g']
        exact finish_b _ _ _ _ _ _ _ (by simp only [zfk, ↓reduceIte, Nat.reduceEqDiff]; try rfl) rfl
    have b6 : (k == 6) = false := beq_eq_false_iff_ne.mpr h6
    simp only [h1, h2, h3, h4, h5, h6, ↓reduceIte]
    simp only [simB, zbo, Nat.reduceBEq, own0, ↓reduceIte, Nat.reduceEqDiff, Nat.reduceAdd, simA, simL, zex, List.toList_toArray, len9, ix9, zey, zez, zfa, zfb, zfc, simN, Nat.zero_add, e1, j1, faT_0, faT_4, ldT_0, ldT_4, i_eqlV, b1, b2, b3, b4, b5, b6]
    exact finish_b _ _ _ _ _ _ _ (by simp only [zfk, ↓reduceIte, Nat.reduceEqDiff]; try rfl) rfl
  · intro K hN hR hE
    refine seq_cut (fun env st => env 1 = .ptr 1 1 0 ∧ st 1 = ⟨1, .buf (cellsT (.mk k b lg l s m kg ks))⟩ ∧ env 3 = .bool (zeroB b l)) ?_ ?_
    · intro env st ⟨e1, j1, e3⟩
      have j1' := j1
      simp only [cellsT] at j1
      unfold badT at hN ⊢
      generalize zeroB b l = z at hN e3 ⊢
      cases x1 : (m != 0) with
      | true =>
        rw [Bool.true_or, Bool.true_or, Bool.not_true, Bool.false_and]
        simp only [simB, zbo, Nat.reduceBEq, own0, ↓reduceIte, Nat.reduceEqDiff, Nat.reduceAdd, simA, simL, zex, List.toList_toArray, len9, ix9, zey, zez, zfa, zfb, zfc, simN, Nat.zero_add, e1, j1, e3, faT_0, faT_2, faT_3, ldT_0, ldT_2, ldT_3, i_neqV, x1, hR]
        exact finish_b _ _ _ _ _ _ _ (by simp only [zfk, ↓reduceIte, Nat.reduceEqDiff]; try rfl) rfl
      | false =>
        have hx : ((k != 1) && !z) = true ∨ ((k != 1) && !z) = false := by cases ((k != 1) && !z) <;> simp
        rcases hx with hx | hx
        · rw [hx, Bool.or_true, Bool.true_or, Bool.not_true, Bool.false_and]
          rw [Bool.and_eq_true] at hx
          have hz : z = false := by cases z <;> simp_all
          subst hz
          simp only [simB, zbo, Nat.reduceBEq, own0, ↓reduceIte, Nat.reduceEqDiff, Nat.reduceAdd, simA, simL, zex, List.toList_toArray, len9, ix9, zey, zez, zfa, zfb, zfc, simN, Nat.zero_add, e1, j1, e3, faT_0, faT_2, faT_3, ldT_0, ldT_2, ldT_3, i_neqV, x1, hx.1, unA_not', Bool.not_false, hR]
          exact finish_b _ _ _ _ _ _ _ (by simp only [zfk, ↓reduceIte, Nat.reduceEqDiff]; try rfl) rfl
        · rw [x1, hx, Bool.or_self, Bool.false_or] at hN
          rw [hx, Bool.or_self, Bool.false_or]
          cases x4 : (k != 2) <;> cases x5 : (k != 6) <;> cases x6 : (s == []) <;> rw [x4, x5, x6] at hN <;> simp only [Bool.true_and, Bool.false_and, Bool.and_true, Bool.and_false, Bool.not_true, Bool.not_false] at hN ⊢ <;> cases x2 : (k != 1) <;> cases z <;> first
            | (exfalso; rw [x2] at hx; exact absurd hx (by decide))
            | (simp only [simB, zbo, Nat.reduceBEq, own0, ↓reduceIte, Nat.reduceEqDiff, Nat.reduceAdd, simA, simL, zex, List.toList_toArray, len9, ix9, zey, zez, zfa, zfb, zfc, simN, Nat.zero_add, e1, j1, e3, faT_0, faT_2, faT_3, ldT_0, ldT_2, ldT_3, i_neqV, x1, x2, x4, x5, x6, unA_not', Bool.not_false, Bool.not_true, hR]
               exact finish_b _ _ _ _ _ _ _ (by simp only [zfk, ↓reduceIte, Nat.reduceEqDiff]; try rfl) rfl)
            | (simp only [simB, zbo, Nat.reduceBEq, own0, ↓reduceIte, Nat.reduceEqDiff, Nat.reduceAdd, simA, simL, zex, List.toList_toArray, len9, ix9, zey, zez, zfa, zfb, zfc, simN, Nat.zero_add, e1, j1, e3, faT_0, faT_2, faT_3, ldT_0, ldT_2, ldT_3, i_neqV, x1, x2, x4, x5, x6, unA_not', Bool.not_false, Bool.not_true, hR]
               exact hN _ _ ⟨(by simp only [zfk, ↓reduceIte, Nat.reduceEqDiff, e1]; try rfl), (by simp only [zfk, ↓reduceIte, Nat.reduceEqDiff, j1']; try rfl), trivial⟩)
    · intro K2 hN2 hR2 hE2
      unfold zeroB at hN2
      have e : ((l.length : Int) == 0) = decide (l.length = 0) := by rw [Bool.eq_iff_iff, beq_iff_eq, decide_eq_true_eq]; omega
      cases hy : decide (l.length = 0) with
      | true =>
        rw [hy] at e hN2
        simp only [simB, zbo, Nat.reduceBEq, own0, ↓reduceIte, Nat.reduceEqDiff, Nat.reduceAdd, simA, simL, zex, List.toList_toArray, len9, ix9, zey, zez, zfa, zfb, zfc, simN, Nat.zero_add, encT, cellsT, faT_1, faN_0, faN_1, ldB_1, ldB_2, Nat.reduceAdd, i_eqlV, e, unA_not']
        exact hN2 _ _ ⟨(by simp only [zfk, ↓reduceIte, Nat.reduceEqDiff]; try rfl), by simp only [cellsT]; exact (by simp only [zfk, ↓reduceIte, Nat.reduceEqDiff]; try rfl), by simp only [zfk, ↓reduceIte, Nat.reduceEqDiff, Bool.and_true]⟩
      | false =>
        rw [hy] at e hN2
        simp only [simB, zbo, Nat.reduceBEq, own0, ↓reduceIte, Nat.reduceEqDiff, Nat.reduceAdd, simA, simL, zex, List.toList_toArray, len9, ix9, zey, zez, zfa, zfb, zfc, simN, Nat.zero_add, encT, cellsT, faT_1, faN_0, faN_1, ldB_1, ldB_2, Nat.reduceAdd, i_eqlV, e, unA_not']
        exact hN2 _ _ ⟨(by simp only [zfk, ↓reduceIte, Nat.reduceEqDiff]; try rfl), by simp only [cellsT]; exact (by simp only [zfk, ↓reduceIte, Nat.reduceEqDiff]; try rfl), by simp only [zfk, ↓reduceIte, Nat.reduceEqDiff, Bool.and_false]⟩
end Go.Ab

/- What the abstract run gives, it gives with more rounds and more depth too. No conditions. -/
namespace Go.Ab
section
variable {P : Program} {cfg : Cfg} {call call' : FuncId → List Arg → Option Out}
def Less (call call' : FuncId → List Arg → Option Out) : Prop := ∀ f as1 r, call f as1 = some r → call' f as1 = some r
theorem callA_mono (h : Less call call') {d : Nat} {s : St} {f : FuncId} {vs : List AV} {r : AV × St} (hc : callA cfg call d s f vs = some r) : callA cfg call' d s f vs = some r := by
  unfold callA at hc ⊢
  cases ha : argsA cfg f s 0 vs with
  | none => rw [ha] at hc; cases hc
  | some as1 =>
    rw [ha] at hc
    simp only [Option.bind_some] at hc ⊢
    split at hc
    · rename_i hg
      rw [if_pos hg]
      cases hcc : call f as1 with
      | none => rw [hcc] at hc; cases hc
      | some o => rw [hcc] at hc; rw [h _ _ _ hcc]; exact hc
    · cases hc
theorem callQ_mono (h : Less call call') {f : FuncId} {vs : List AV} {r : AV} (hc : callQ call f vs = some r) : callQ call' f vs = some r := by
  unfold callQ at hc ⊢
  split at hc
  · rename_i hg
    rw [if_pos hg]
    cases hcc : call f (vs.map .tree) with
    | none => rw [hcc] at hc; cases hc
    | some o => rw [hcc] at hc; rw [h _ _ _ hcc]; exact hc
  · rename_i hg
    rw [if_neg hg]
    split at hc
    · rename_i hg2
      rw [if_pos hg2]
      cases hcc : call f (vs.map fun v => .tree (loosen v)) with
      | none => rw [hcc] at hc; cases hc
      | some o => rw [hcc] at hc; rw [h _ _ _ hcc]; exact hc
    · cases hc
theorem opA_mono (h : Less call call') {q : Bool} {o : Oper} {d : Nat} {env : Env} {s : St} {r : AV × St} (hc : opA P cfg call q o d env s = some r) : opA P cfg call' q o d env s = some r := by
  obtain ⟨dst, op, ty, pos, af, g⟩ := o
  cases op with
  | call c =>
    obtain ⟨ce, as1, us⟩ := c
    cases ce with
    | value f =>
      simp only [opA] at hc ⊢
      split at hc
      · split at hc
        · rename_i hq
          rw [if_pos hq]
          split at hc
          · rename_i h0
            rw [if_pos h0]
            exact callA_mono h hc
          rename_i h0
          rw [if_neg h0]
          split at hc
          · rename_i h1
            rw [if_pos h1]
            split at hc
            · rename_i h2
              rw [if_pos h2]
              exact callA_mono h hc
            · cases hc
          · rename_i h1
            rw [if_neg h1]
            obtain ⟨v, hcc, hv⟩ := Option.map_eq_some_iff.mp hc
            rw [callQ_mono h hcc]
            exact congrArg some hv
        · rename_i hq
          rw [if_neg hq]
          exact callA_mono h hc
      · cases hc
    | builtin b => cases b <;> exact hc
    | _ => exact hc
  | _ => exact hc
theorem opsA_mono (h : Less call call') {q : Bool} {ops : Array Oper} : ∀ (l : List Oper) {env : Env} {s : St} {r : Env × St}, opsA P cfg call q ops l env s = some r → opsA P cfg call' q ops l env s = some r
  | [], env, s, r, hc => hc
  | o :: l, env, s, r, hc => by
    simp only [opsA] at hc ⊢
    cases hw : wantA ops o env with
    | none => rw [hw] at hc; cases hc
    | some b =>
      rw [hw] at hc
      cases b with
      | false => exact opsA_mono h l hc
      | true =>
        simp only at hc ⊢
        cases ho : opA P cfg call q o (o.dst.getD 0) env s with
        | none => rw [ho] at hc; cases hc
        | some x =>
          rw [ho] at hc
          rw [opA_mono h ho]
          simp only [Option.bind_some] at hc ⊢
          exact opsA_mono h l hc
def LessK (K K' : Kont) : Prop := ∀ e env s r, K e env s = some r → K' e env s = some r
theorem loopA_mono {b b' : Kont → Env → St → Option Out} (hb : ∀ K K', LessK K K' → ∀ env s r, b K env s = some r → b' K' env s = some r) {K K' : Kont} (hK : LessK K K') :
    ∀ (n n' : Nat), n ≤ n' → ∀ env s r, loopA b K n env s = some r → loopA b' K' n' env s = some r
  | 0, n', _, env, s, r, hc => by cases hc
  | n + 1, n', hn, env, s, r, hc => by
    obtain ⟨m, rfl⟩ : ∃ m, n' = m + 1 := ⟨n' - 1, by omega⟩
    simp only [loopA] at hc ⊢
    refine hb _ _ (fun e env s r h => ?_) _ _ _ hc
    cases e with
    | normal => exact loopA_mono hb hK n m (by omega) _ _ _ h
    | exit i => exact hK _ _ _ _ h
    | ret => exact hK _ _ _ _ h
theorem den_mono (h : Less call call') {n n' : Nat} (hn : n ≤ n') : ∀ (c : Code) {K K' : Kont}, LessK K K' → ∀ {env : Env} {s : St} {r : Out}, den P cfg call n c K env s = some r → den P cfg call' n' c K' env s = some r
  | .skip, K, K', hK, env, s, r, hc => hK _ _ _ _ hc
  | .label _, K, K', hK, env, s, r, hc => hK _ _ _ _ hc
  | .region _ ops draw, K, K', hK, env, s, r, hc => by
    simp only [den] at hc ⊢
    cases ho : opsA P cfg call draw ops ops.toList env (killI cfg.keep draw ops.toList s) with
    | none => rw [ho] at hc; cases hc
    | some x =>
      rw [ho] at hc
      rw [opsA_mono h _ ho]
      exact hK _ _ _ _ hc
  | .goto t, K, K', hK, env, s, r, hc => by
    simp only [den] at hc ⊢
    split at hc
    · rename_i hg
      rw [if_pos hg]
      exact hK _ _ _ _ hc
    · cases hc
  | .seq a b, K, K', hK, env, s, r, hc => by
    simp only [den] at hc ⊢
    refine den_mono h hn a (fun e env s r hh => ?_) hc
    cases e with
    | normal => exact den_mono h hn b hK hh
    | exit i => exact hK _ _ _ _ hh
    | ret => exact hK _ _ _ _ hh
  | .cond c a b, K, K', hK, env, s, r, hc => by
    simp only [den] at hc ⊢
    cases hv : ev env c <;> rw [hv] at hc <;> try cases hc
    rename_i x
    cases x with
    | true => exact den_mono h hn a hK hc
    | false => exact den_mono h hn b hK hc
  | .scope a, K, K', hK, env, s, r, hc => by
    simp only [den] at hc ⊢
    exact den_mono h hn a hK hc
  | .block id a, K, K', hK, env, s, r, hc => by
    simp only [den] at hc ⊢
    refine den_mono h hn a (fun e env s r hh => ?_) hc
    cases e with
    | normal => exact hK _ _ _ _ hh
    | exit i =>
      simp only at hh ⊢
      split at hh
      · rename_i hi; rw [if_pos hi]; exact hK _ _ _ _ hh
      · rename_i hi; rw [if_neg hi]; exact hK _ _ _ _ hh
    | ret => exact hK _ _ _ _ hh
  | .loop a, K, K', hK, env, s, r, hc => by
    simp only [den] at hc ⊢
    exact loopA_mono (b := den P cfg call n a) (b' := den P cfg call' n' a) (fun K K' hK env s r hh => den_mono h hn a hK hh) hK n n' hn _ _ _ hc
  | .exit id, K, K', hK, env, s, r, hc => hK _ _ _ _ hc
  | .ret, K, K', hK, env, s, r, hc => hK _ _ _ _ hc
  | .rangeFunc .., K, K', hK, env, s, r, hc => by cases hc
  | .refuse _, K, K', hK, env, s, r, hc => by cases hc
theorem evalFn_mono {n n' : Nat} (hn : n ≤ n') : ∀ (d d' : Nat), d ≤ d' → Less (evalFn P cfg n d) (evalFn P cfg n' d')
  | 0, _, _, f, as1, r, hc => by cases hc
  | d + 1, d', hd, f, as1, r, hc => by
    obtain ⟨m, rfl⟩ : ∃ m, d' = m + 1 := ⟨d' - 1, by omega⟩
    simp only [evalFn] at hc ⊢
    cases hp : cfg.prim f as1 with
    | some o => rw [hp] at hc; exact hc
    | none =>
      rw [hp] at hc
      simp only at hc ⊢
      cases hf : P.funcs[f]? with
      | none => rw [hf] at hc; cases hc
      | some fn =>
        rw [hf] at hc
        simp only at hc ⊢
        cases hb : fn.body with
        | none => rw [hb] at hc; cases hc
        | some c =>
          rw [hb] at hc
          simp only at hc ⊢
          split at hc
          · rename_i hg
            rw [if_pos hg]
            exact den_mono (evalFn_mono hn d m (by omega)) hn _ (fun _ _ _ _ hh => hh) hc
          · cases hc
end
end Go.Ab

/- The document's own check of terms, walked. Conditions: limbs in range; texts shorter than the rounds. -/
namespace Go.Ab
open Go.Proofs
set_option maxRecDepth 100000
set_option linter.unusedSimpArgs false

mutual
def bigT (R : Nat) : T → Prop
  | .mk _ _ _ l s _ _ ks => Limbs l ∧ s.length < R ∧ bigK R ks
def bigK (R : Nat) : List T → Prop
  | [] => True
  | t :: r => bigT R t ∧ bigK R r
end
theorem bigK_at (R : Nat) : ∀ (ks : List T) (i : Nat) (t : T) (r : List T), ks.drop i = t :: r → bigK R ks → bigT R t
  | [], i, t, r, h, _ => by simp at h
  | a :: q, 0, t, r, h, hw => by simp only [List.drop_zero, List.cons.injEq] at h; obtain ⟨rfl, rfl⟩ := h; simp only [bigK] at hw; exact hw.1
  | a :: q, i + 1, t, r, h, hw => by simp only [bigK] at hw; exact bigK_at R q i t r (by simpa using h) hw.2
mutual
def rwT : T → Int → Int → Int
  | .mk k b lg l s m kg ks, deep, n => if n + 1 > 2000 ∨ deep > 60 ∨ ownT (.mk k b lg l s m kg ks) = false then -1 else rwK k ks 0 deep (n + 1)
def rwK (k : Int) : List T → Nat → Int → Int → Int
  | [], _, _, n => n
  | t :: r, i, deep, n => if rwT t (if k = 4 ∧ i = 1 then deep else deep + 1) n < 0 then -1 else rwK k r (i + 1) deep (rwT t (if k = 4 ∧ i = 1 then deep else deep + 1) n)
end
mutual
theorem rwT_good (R : Nat) : ∀ (t : T) (deep n : Int), bigT R t → 0 ≤ n → 0 ≤ rwT t deep n → goodT t ∧ rwT t deep n = n + nodT t ∧ rwT t deep n ≤ 2000
  | .mk k b lg l s m kg ks, deep, n, hb, hn, h => by
    simp only [rwT, nodT] at h ⊢
    split at h
    · omega
    · rename_i hg
      have ho : ownT (.mk k b lg l s m kg ks) = true := by
        cases h0 : ownT (.mk k b lg l s m kg ks)
        · exact absurd (.inr (.inr h0)) hg
        · rfl
      simp only [hg, ↓reduceIte]
      simp only [bigT] at hb
      have := rwK_good R k ks 0 deep (n + 1) hb.2.2 (by omega) (by omega) h
      simp only [goodT]
      exact ⟨⟨hb.1, ho, this.1⟩, by omega, this.2.2⟩
theorem rwK_good (R : Nat) (k : Int) : ∀ (ks : List T) (i : Nat) (deep n : Int), bigK R ks → 0 ≤ n → n ≤ 2000 → 0 ≤ rwK k ks i deep n → goodK ks ∧ rwK k ks i deep n = n + nodK ks ∧ rwK k ks i deep n ≤ 2000
  | [], i, deep, n, _, hn, hn2, h => by simp only [rwK, goodK, nodK] at h ⊢; exact ⟨trivial, by omega, hn2⟩
  | t :: r, i, deep, n, hb, hn, hn2, h => by
    simp only [rwK, goodK, nodK, bigK] at h hb ⊢
    generalize (if k = 4 ∧ i = 1 then deep else deep + 1) = dd at h ⊢
    split at h
    · omega
    · rename_i hg
      have a := rwT_good R t dd n hb.1 hn (by omega)
      have b := rwK_good R k r (i + 1) deep _ hb.2 (by omega) (by omega) h
      simp only [hg, ↓reduceIte]
      exact ⟨⟨a.1, b.1⟩, by omega, b.2.2⟩
end
theorem callA_tii {cfg : Cfg} {call : FuncId → List Arg → Option Out} {D : Nat} {f : FuncId} {ys : List AV} {x z : Int} {r : AV} (hc : call f [.tree (.agg ys), .tree (.int .i64 x), .tree (.int .i64 z)] = some (.tree r, [[], [], []])) (s : St) :
    callA cfg call D s f [.agg ys, .int .i64 x, .int .i64 z] = some (r, s) := callA_trees (vs := [.agg ys, .int .i64 x, .int .i64 z]) rfl hc
set_option maxHeartbeats 32000000 in
theorem rwalk_eq (R : Nat) (hR : 100 ≤ R) (hR2 : R ≤ 9223372036854775808) : ∀ (N D : Nat) (t : T) (deep n : Int), 2001 - n ≤ N → N + 3 ≤ D → bigT R t → 0 ≤ deep → deep ≤ 1000 → 0 ≤ n → n ≤ 2000 →
    evalFn Try.prog cfg0 R D 34 [.tree (encT t), .tree (.int .i64 deep), .tree (.int .i64 n)] = some (.tree (.int .i64 (rwT t deep n)), [[], [], []])
  | 0, D, t, deep, n, h1, h2, h3, h4, h5, h6, h7 => by omega
  | N + 1, D, t, deep, n, h1, h2, h3, h4, h5, h6, h7 => by
    have IH := fun D h t deep n h1 h3 h4 h5 h6 h7 => rwalk_eq R hR hR2 N D t deep n h1 h h3 h4 h5 h6 h7
    obtain ⟨d, rfl⟩ : ∃ d, D = d + 4 := ⟨D - 4, by omega⟩
    rw [evalFn_go _ Try.func34 (by unfold Try.f34; rfl) (by unfold Try.f34; decide) (Nat.le_of_ble_eq_true (by unfold Try.f34; rfl)) (by kernel_rfl)]
    obtain ⟨k, b, lg, l, s, m, kg, ks⟩ := t
    simp only [bigT] at h3
    have f0 := i_add Try.prog 3 n 1 (by omega) (by omega)
    have co := fun D st => callA_trees (cfg := cfg0) (d := D) (s := st) (f := 68) (vs := [encT (.mk k b lg l s m kg ks)]) rfl (fields_eq R (d+1) k b lg l h3.1 s h3.2.1 (by omega) m kg ks)
    simp only [encT, cellsT] at co
    by_cases g1 : n + 1 > 2000
    · have hr : rwT (.mk k b lg l s m kg ks) deep n = -1 := by simp only [rwT]; exact if_pos (.inl g1)
      rw [hr]
      simp only [simB, zbo, Nat.reduceBEq, own0, ↓reduceIte, Nat.reduceEqDiff, Nat.reduceAdd, simA, simL, simN, Nat.zero_add, encT, cellsT, f0, g1]
      exact finish_i _ _ _ _ _ _ _ (by simp only [zfk, ↓reduceIte, Nat.reduceEqDiff]; try rfl) rfl
    by_cases g2 : deep > 60
    · have hr : rwT (.mk k b lg l s m kg ks) deep n = -1 := by simp only [rwT]; exact if_pos (.inr (.inl g2))
      rw [hr]
      simp only [simB, zbo, Nat.reduceBEq, own0, ↓reduceIte, Nat.reduceEqDiff, Nat.reduceAdd, simA, simL, simN, Nat.zero_add, encT, cellsT, f0, g1, g2]
      exact finish_i _ _ _ _ _ _ _ (by simp only [zfk, ↓reduceIte, Nat.reduceEqDiff]; try rfl) rfl
    cases g3 : ownT (.mk k b lg l s m kg ks) with
    | false =>
      have hr : rwT (.mk k b lg l s m kg ks) deep n = -1 := by simp only [rwT]; exact if_pos (.inr (.inr g3))
      rw [hr]
      rw [g3] at co
      simp only [simB, zbo, Nat.reduceBEq, own0, ↓reduceIte, Nat.reduceEqDiff, Nat.reduceAdd, simA, simL, simN, Nat.zero_add, encT, cellsT, ldT_a, f0, g1, g2, co, unA_not', Bool.not_false]
      exact finish_i _ _ _ _ _ _ _ (by simp only [zfk, ↓reduceIte, Nat.reduceEqDiff]; try rfl) rfl
    | true =>
      rw [g3] at co
      have hg : ¬ (n + 1 > 2000 ∨ deep > 60 ∨ ownT (.mk k b lg l s m kg ks) = false) := by rw [g3]; simp only [g1, g2, false_or]; decide
      have hr : rwT (.mk k b lg l s m kg ks) deep n = rwK k ks 0 deep (n + 1) := by simp only [rwT]; exact if_neg hg
      rw [hr]
      have hks : ks.length ≤ 40 := by
        have := g3
        simp only [ownT, Bool.and_eq_true, decide_eq_true_eq] at this
        have h5 := this.2.1.2
        by_cases k4 : k = 4
        · rw [if_pos k4, decide_eq_true_eq] at h5; omega
        · rw [if_neg k4] at h5
          by_cases k5 : k = 5
          · rw [if_pos k5, decide_eq_true_eq] at h5; exact h5
          · rw [if_neg k5, decide_eq_true_eq] at h5; omega
      simp only [simB, zbo, Nat.reduceBEq, own0, ↓reduceIte, Nat.reduceEqDiff, Nat.reduceAdd, simA, simL, simN, Nat.zero_add, encT, cellsT, ldT_a, f0, g1, g2, co, unA_not', Bool.not_true, den_loop]
      generalize hV : rwK k ks 0 deep (n + 1) = V
      refine loop_ends (X := Nat × Int) (fun x env st => env 1 = .int .i64 deep ∧ env 2 = .int .i64 x.2 ∧ env 3 = .ptr 3 1 0 ∧ env 7 = .int .i64 (x.1 : Int) ∧ st 3 = ⟨1, .buf (cellsT (.mk k b lg l s m kg ks))⟩ ∧ x.1 ≤ ks.length ∧ n + 1 ≤ x.2 ∧ x.2 ≤ 2000 ∧ rwK k (ks.drop x.1) x.1 deep x.2 = V) (fun x => ks.length - x.1) (fun _ => (.tree (.int .i64 V), [[], [], []])) ?_ R (0, n + 1) _ _ (by simp only; omega) ⟨(by simp only [zfk, ↓reduceIte, Nat.reduceEqDiff, env0, List.getElem?_cons_zero, List.getElem?_cons_succ]; try rfl), (by simp only [zfk, ↓reduceIte, Nat.reduceEqDiff]; try rfl), (by simp only [zfk, ↓reduceIte, Nat.reduceEqDiff]; try rfl), (by simp only [zfk, ↓reduceIte, Nat.reduceEqDiff]; try rfl), by simp only [cellsT]; exact (by simp only [zfk, ↓reduceIte, Nat.reduceEqDiff]; try rfl), Nat.zero_le _, by simp only; omega, by simp only; omega, hV⟩
      rintro rr ⟨i, v⟩ hrr ih env st ⟨e1, e2, e3, e7, j3, hi, hv0, hv1, hc⟩
      simp only at e2 e7 hi hv0 hv1 hc
      simp only [cellsT] at j3
      cases hd : ks.drop i with
      | nil =>
        have hil : i = ks.length := by have := congrArg List.length hd; simp only [List.length_drop, List.length_nil] at this; omega
        rw [hd] at hc
        simp only [rwK] at hc
        rw [← hc]
        have q1 : ¬ ((i : Int) < (ks.length : Int)) := by omega
        simp only [simB, zbo, Nat.reduceBEq, own0, ↓reduceIte, Nat.reduceEqDiff, Nat.reduceAdd, simL, simN, Nat.zero_add, e1, e2, e3, e7, j3, faT_4, ldT_4, lenTk, q1]
        exact finish_i _ _ _ _ _ _ _ (by simp only [zfk, ↓reduceIte, Nat.reduceEqDiff]; try rfl) rfl
      | cons kid r =>
        have hil : i < ks.length := by have := congrArg List.length hd; simp only [List.length_drop, List.length_cons] at this; omega
        rw [hd] at hc
        simp only [rwK] at hc
        have q1 : (i : Int) < (ks.length : Int) := by omega
        have f5 := i_add Try.prog 3 (i : Int) 1 (by omega) (by omega)
        have f6 := i_add Try.prog 3 deep 1 (by omega) (by omega)
        have kb := bigK_at R ks i kid r hd h3.2.2
        have ia := fun st => ia_K st ks (gr kg) i hil
        rw [hd] at ia
        have ld := fun st => ld_K st kid r
        simp only [encT] at ld
        by_cases hk1 : k = 4 ∧ i = 1
        · rw [if_pos hk1] at hc
          obtain ⟨rfl, rfl⟩ := hk1
          have b4 : ((4 : Int) == 4) = true := rfl
          have b1 : (((1 : Nat) : Int) == 1) = true := rfl
          have cc := fun D => callA_tii (cfg := cfg0) (D := D) (IH (d+3) (by omega) kid deep v (by omega) kb (by omega) (by omega) (by omega) (by omega))
          by_cases hx : rwT kid deep v < 0
          · rw [if_pos hx] at hc
            rw [← hc]
            simp only [simB, zbo, Nat.reduceBEq, own0, ↓reduceIte, Nat.reduceEqDiff, Nat.reduceAdd, simL, simN, Nat.zero_add, e1, e2, e3, e7, j3, faT_0, faT_4, ldT_0, ldT_4, lenTk, q1, f6, i_eqlV, b4, b1, ia, ld, cc, hx]
            exact finish_i _ _ _ _ _ _ _ (by simp only [zfk, ↓reduceIte, Nat.reduceEqDiff]; try rfl) rfl
          · rw [if_neg hx] at hc
            have hgd := rwT_good R kid deep v kb (by omega) (by omega)
            have := nod_pos kid
            simp only [simB, zbo, Nat.reduceBEq, own0, ↓reduceIte, Nat.reduceEqDiff, Nat.reduceAdd, simL, simN, Nat.zero_add, e1, e2, e3, e7, j3, faT_0, faT_4, ldT_0, ldT_4, lenTk, q1, f6, i_eqlV, b4, b1, ia, ld, cc, hx, f5]
            exact ih (1 + 1, rwT kid deep v) _ _ (by simp only; omega) rfl ⟨(by simp only [zfk, ↓reduceIte, Nat.reduceEqDiff, e1]; try rfl), (by simp only [zfk, ↓reduceIte, Nat.reduceEqDiff]; try rfl), (by simp only [zfk, ↓reduceIte, Nat.reduceEqDiff, e3]; try rfl), (by simp only [zfk, ↓reduceIte, Nat.reduceEqDiff]; try rfl), by simp only [cellsT]; exact (by simp only [zfk, ↓reduceIte, Nat.reduceEqDiff, j3]; try rfl), by simp only; omega, by simp only; omega, by simp only; omega, by simp only; rw [drop_next hd]; exact hc⟩
        · rw [if_neg hk1] at hc
          have cc := fun D => callA_tii (cfg := cfg0) (D := D) (IH (d+3) (by omega) kid (deep + 1) v (by omega) kb (by omega) (by omega) (by omega) (by omega))
          have hbb : (k == 4) = true ∧ ((i : Int) == 1) = false ∨ (k == 4) = false := by
            by_cases k4 : k = 4
            · refine .inl ⟨beq_iff_eq.mpr k4, beq_eq_false_iff_ne.mpr fun e => hk1 ⟨k4, by omega⟩⟩
            · exact .inr (beq_eq_false_iff_ne.mpr k4)
          by_cases hx : rwT kid (deep + 1) v < 0
          · rw [if_pos hx] at hc
            rw [← hc]
            rcases hbb with ⟨b4, b1⟩ | b4
            · simp only [simB, zbo, Nat.reduceBEq, own0, ↓reduceIte, Nat.reduceEqDiff, Nat.reduceAdd, simL, simN, Nat.zero_add, e1, e2, e3, e7, j3, faT_0, faT_4, ldT_0, ldT_4, lenTk, q1, f6, i_eqlV, b4, b1, ia, ld, cc, hx]
              exact finish_i _ _ _ _ _ _ _ (by simp only [zfk, ↓reduceIte, Nat.reduceEqDiff]; try rfl) rfl
            · simp only [simB, zbo, Nat.reduceBEq, own0, ↓reduceIte, Nat.reduceEqDiff, Nat.reduceAdd, simL, simN, Nat.zero_add, e1, e2, e3, e7, j3, faT_0, faT_4, ldT_0, ldT_4, lenTk, q1, f6, i_eqlV, b4, ia, ld, cc, hx]
              exact finish_i _ _ _ _ _ _ _ (by simp only [zfk, ↓reduceIte, Nat.reduceEqDiff]; try rfl) rfl
          · rw [if_neg hx] at hc
            have hgd := rwT_good R kid (deep + 1) v kb (by omega) (by omega)
            have := nod_pos kid
            rcases hbb with ⟨b4, b1⟩ | b4
            · simp only [simB, zbo, Nat.reduceBEq, own0, ↓reduceIte, Nat.reduceEqDiff, Nat.reduceAdd, simL, simN, Nat.zero_add, e1, e2, e3, e7, j3, faT_0, faT_4, ldT_0, ldT_4, lenTk, q1, f6, i_eqlV, b4, b1, ia, ld, cc, hx, f5]
              exact ih (i + 1, rwT kid (deep + 1) v) _ _ (by simp only; omega) rfl ⟨(by simp only [zfk, ↓reduceIte, Nat.reduceEqDiff, e1]; try rfl), (by simp only [zfk, ↓reduceIte, Nat.reduceEqDiff]; try rfl), (by simp only [zfk, ↓reduceIte, Nat.reduceEqDiff, e3]; try rfl), (by simp only [zfk, ↓reduceIte, Nat.reduceEqDiff]; try rfl), by simp only [cellsT]; exact (by simp only [zfk, ↓reduceIte, Nat.reduceEqDiff, j3]; try rfl), by simp only; omega, by simp only; omega, by simp only; omega, by simp only; rw [drop_next hd]; exact hc⟩
            · simp only [simB, zbo, Nat.reduceBEq, own0, ↓reduceIte, Nat.reduceEqDiff, Nat.reduceAdd, simL, simN, Nat.zero_add, e1, e2, e3, e7, j3, faT_0, faT_4, ldT_0, ldT_4, lenTk, q1, f6, i_eqlV, b4, ia, ld, cc, hx, f5]
              exact ih (i + 1, rwT kid (deep + 1) v) _ _ (by simp only; omega) rfl ⟨(by simp only [zfk, ↓reduceIte, Nat.reduceEqDiff, e1]; try rfl), (by simp only [zfk, ↓reduceIte, Nat.reduceEqDiff]; try rfl), (by simp only [zfk, ↓reduceIte, Nat.reduceEqDiff, e3]; try rfl), (by simp only [zfk, ↓reduceIte, Nat.reduceEqDiff]; try rfl), by simp only [cellsT]; exact (by simp only [zfk, ↓reduceIte, Nat.reduceEqDiff, j3]; try rfl), by simp only; omega, by simp only; omega, by simp only; omega, by simp only; rw [drop_next hd]; exact hc⟩
theorem rCheck_eq (R : Nat) (hR : 100 ≤ R) (hR2 : R ≤ 9223372036854775808) (d : Nat) (t : T) (ht : bigT R t) : evalFn Try.prog cfg0 R (d + 2005) 16 [.tree (encT t)] = some (.tree (.bool (decide (rwT t 1 0 ≥ 0))), [[]]) := by
  rw [evalFn_go _ Try.func16 (by unfold Try.f16; rfl) (by unfold Try.f16; decide) (Nat.le_of_ble_eq_true (by unfold Try.f16; rfl)) (by kernel_rfl)]
  have cc := fun D => callA_tii (cfg := cfg0) (D := D) (rwalk_eq R hR hR2 2001 (d + 2004) t 1 0 (by decide) (by omega) ht (by decide) (by decide) (by decide) (by decide))
  simp only [simB, zbo, Nat.reduceBEq, own0, ↓reduceIte, Nat.reduceEqDiff, Nat.reduceAdd, simA, simL, simN, Nat.zero_add, encT, ldT_u, cc]
  exact finish_b _ _ _ _ _ _ _ (by simp only [zfk, ↓reduceIte, Nat.reduceEqDiff]; try rfl) rfl
end Go.Ab

/- Terms out of a statement's reading. No conditions. -/
namespace Go.Ab
open Go.Proofs Go.RowKit Go.ChangeShapes Go.WideShapes Go.ChangeAt
set_option maxRecDepth 100000

def R0 : Nat := 9223372036854775808
theorem R0_max : maxLen < R0 := by unfold R0 maxLen; decide
theorem R0_in {n : Nat} (h : n ≤ maxLen) : n < R0 := Nat.lt_of_le_of_lt h R0_max
theorem R0_pos : 0 < R0 := by unfold R0; decide
set_option maxRecDepth 100000 in
theorem und28 : ∃ f0 f1 f2 f3 f4 : Field, Try.prog.underlying 28 = some (.struct #[f0, f1, f2, f3, f4]) ∧ (f0.type = 3 ∧ f1.type = 25 ∧ f2.type = 9 ∧ f3.type = 3 ∧ f4.type = 26) ∧ (f0.offset = 0 ∧ f1.offset = 1 ∧ f2.offset = 3 ∧ f3.offset = 4 ∧ f4.offset = 5) := by
  exact ⟨_, _, _, _, _, Try.underlying28, ⟨rfl, rfl, rfl, rfl, rfl⟩, ⟨rfl, rfl, rfl, rfl, rfl⟩⟩
theorem cells28 : Try.prog.cellsOf 28 = 6 := by kernel_rfl
theorem cellsOI : Try.prog.cellsOf 3 = 1 := by kernel_rfl
theorem cellsS : Try.prog.cellsOf 9 = 1 := by kernel_rfl
theorem cellsTk : Try.prog.cellsOf 26 = 1 := by kernel_rfl
theorem VC_app {S : Nat → Nat → Prop} {w : World} {b : Nat} : ∀ (xs ys : List AV) (o : Nat), VC S w xs b o → VC S w ys b (o + xs.length) → VC S w (xs ++ ys) b o
  | [], ys, o, _, h => by simpa using h
  | x :: xs, ys, o, h, h' => by
    simp only [List.cons_append, VC] at h ⊢
    exact ⟨h.1, h.2.1, VC_app xs ys (o + 1) h.2.2 (by rw [List.length_cons] at h'; rw [show o + 1 + xs.length = o + (xs.length + 1) by omega]; exact h')⟩
theorem VC_of_VL {S : Nat → Nat → Prop} {w : World} {b : Nat} : ∀ (xs : List AV) (vs : List Value) (o : Nat), VL S w xs vs → (∀ j v, vs[j]? = some v → S b (o + j) ∧ w.cell? ⟨b, o + j, none⟩ = some v) → VC S w xs b o
  | [], _, _, _, _ => by simp only [VC]
  | x :: xs, vs, o, h, hc => by
    simp only [VL] at h
    obtain ⟨v, r, rfl, h1, h2, h3⟩ := h
    simp only [VC]
    have h0 := hc 0 v rfl
    refine ⟨h0.1, ⟨v, h0.2, h1, h2⟩, VC_of_VL xs r (o + 1) h3 fun j u hj => ?_⟩
    have := hc (j + 1) u (by simpa using hj)
    rw [show o + (j + 1) = o + 1 + j by omega] at this
    exact this
theorem VC_terms {S : Nat → Nat → Prop} {w : World} {b : Nat} (R : Nat) : ∀ (len o : Nat), (∀ i, i < len → ∃ t, bigT R t ∧ fewT R t ∧ VC S w (cellsT t) b (o + i * 6)) → ∃ ks : List T, ks.length = len ∧ bigK R ks ∧ fewK R ks ∧ VC S w (cellsK ks) b o
  | 0, o, _ => ⟨[], rfl, by simp only [bigK], by simp only [fewK], by simp only [cellsK, VC]⟩
  | len + 1, o, h => by
    obtain ⟨t, h1, h2, h3⟩ := h 0 (by omega)
    obtain ⟨ks, k0, k1, k2, k3⟩ := VC_terms R len (o + 6) fun i hi => by
      obtain ⟨t, a1, a2, a3⟩ := h (i + 1) (by omega)
      exact ⟨t, a1, a2, by rw [show o + 6 + i * 6 = o + (i + 1) * 6 by omega]; exact a3⟩
    refine ⟨t :: ks, by simp [k0], by simp only [bigK]; exact ⟨h1, k1⟩, by simp only [fewK]; exact ⟨h2, k2⟩, ?_⟩
    simp only [cellsK]
    exact VC_app _ _ _ (by simpa using h3) (by rw [cellsT_len]; exact k3)
theorem cell_lt {w : World} {a : Addr} {v : Value} (h : w.cell? a = some v) : a.block < w.heap.size := by
  rw [World.cell?] at h
  cases hb : w.heap[a.block]? with
  | none => simp only [hb] at h; cases h
  | some o => exact (Array.getElem?_eq_some_iff.mp hb).1
theorem add_none (b o i : Nat) : (⟨b, o, none⟩ : Addr).add i = ⟨b, o + i, none⟩ := by
  unfold Addr.add
  split
  · rename_i h; rw [h]; rfl
  · rfl
theorem V0_str {S : Nat → Nat → Prop} {w : World} (s : ByteArray) : V0 S w (.str s.data.toList) (.string s) := by simp [V0]
section
variable {H : Type} {enc : TypeId × Value → H} {w : World} {base : Nat} {held : Bool}
theorem openT_cells : ∀ (fuel : Nat) (cs : List Value) (x : DataW H × List MemPlace), DataW.trod enc Try.prog w base (fun _ => true) held fuel 28 cs = some x →
    ∃ t : T, bigT R0 t ∧ fewT R0 t ∧ VL (old w) w (cellsT t) cs ∧ cs.length = 6
  | fuel, cs, x, h => by
    obtain ⟨f0, f1, f2, f3, f4, hu, ⟨t0, t1, t2, t3, t4⟩, ⟨o0, o1, o2, o3, o4⟩⟩ := und28
    obtain ⟨xs, n, hfu, _, hl, hxs, hf⟩ := DataW.trod_struct hu h
    rw [cells28] at hl
    match cs, hl with
    | [c0, c1, c2, c3, c4, c5], _ =>
      match xs, hxs with
      | [y0, y1, y2, y3, y4], _ =>
        have g0 := hf 0 f0 rfl
        have g1 := hf 1 f1 rfl
        have g2 := hf 2 f2 rfl
        have g3 := hf 3 f3 rfl
        have g4 := hf 4 f4 rfl
        rw [t0, o0, cellsOI] at g0
        rw [t1, o1, cells24] at g1
        rw [t2, o2, cellsS] at g2
        rw [t3, o3, cellsOI] at g3
        rw [t4, o4, cellsTk] at g4
        simp only [List.drop_zero, List.drop_succ_cons, List.take_succ_cons, List.take_zero, List.getElem?_cons_zero, List.getElem?_cons_succ] at g0 g1 g2 g3 g4
        obtain ⟨k, e0, _, _⟩ := DataW.trod_int Try.underlying3 g0
        obtain ⟨s, e2, _, hs⟩ := DataW.trod_string Try.underlying9 g2
        obtain ⟨m, e3, _, _⟩ := DataW.trod_int Try.underlying3 g3
        simp only [List.cons.injEq, and_true] at e0 e2 e3
        subst e0; subst e2; subst e3
        obtain ⟨n0, n1, hnu, s0, s1, p0, p1⟩ := und24
        obtain ⟨ys, n', _, _, hl2, hys, hf2⟩ := DataW.trod_struct hnu g1
        match ys, hys with
        | [z0, z1], _ =>
          have q0 := hf2 0 n0 rfl
          have q1 := hf2 1 n1 rfl
          rw [s0, p0, cells4] at q0
          rw [s1, p1, cells22] at q1
          simp only [List.drop_zero, List.drop_succ_cons, List.take_succ_cons, List.take_zero, List.getElem?_cons_zero, List.getElem?_cons_succ] at q0 q1
          obtain ⟨b, eb, _⟩ := DataW.trod_bool Try.underlying4 q0
          simp only [List.cons.injEq, and_true] at eb
          subst eb
          have hlim : ∃ l : List Nat, Limbs l ∧ l.length < R0 ∧ V0 (old w) w (encL .l l) c2 ∧ c2.oneCell' = true := by
            rcases open_ints Try.underlying23 Try.underlying56 (by kernel_rfl) q1 with ⟨hc, _⟩ | ⟨x, l, c, zs, hc, _, hl, hm, hz, _, hcell, hwz⟩
            · simp only [List.cons.injEq, and_true] at hc
              subst hc
              obtain ⟨l, h1, h2⟩ := limbsOf (w := w) (a := none) (len := 0) (cap := 0) (zs := []) (.inl ⟨rfl, rfl, rfl, rfl⟩)
              have hlen : l.length = 0 := by
                simp only [encL, V0] at h2
                obtain ⟨a, cap, he, _⟩ := h2
                injection he with _ h3 _
                exact h3.symm
              exact ⟨l, h1, by rw [hlen]; exact R0_in (by omega), h2, rfl⟩
            · simp only [List.cons.injEq, and_true] at hc
              subst hc
              obtain ⟨l', h1, h2⟩ := limbsOf (w := w) (a := some x) (len := l) (cap := c) (zs := zs) (.inr ⟨x, rfl, hl, hm, by simpa using hz, hcell, hwz⟩)
              have hlen : l'.length = l := by
                simp only [encL, V0] at h2
                obtain ⟨a, cap, he, _⟩ := h2
                injection he with _ h3 _
                exact h3.symm
              exact ⟨l', h1, by rw [hlen]; exact R0_in (by omega), h2, rfl⟩
          obtain ⟨l, hL, hLl, hV2, hO2⟩ := hlim
          have hkids : ∃ ks : List T, ks.length < R0 ∧ bigK R0 ks ∧ fewK R0 ks ∧ V0 (old w) w (.sl (cellsK ks) ks.length (gr .l)) c5 ∧ c5.oneCell' = true := by
            rcases DataW.trod_slice Try.underlying26 g4 with ⟨hc, _⟩ | ⟨a, len, cap, elems, rest, n2, hfn, hc, _, hb, hle, hm, hlen, hel, hsp, _⟩
            · simp only [List.cons.injEq, and_true] at hc
              subst hc
              refine ⟨[], R0_pos, by simp only [bigK], by simp only [fewK], ?_, rfl⟩
              simp only [V0, cellsK]
              exact ⟨none, 0, rfl, by simp, by simp [gr], by simp [Grip.isTok, gr], .inl (by simp)⟩
            · simp only [List.cons.injEq, and_true] at hc
              subst hc
              by_cases hcap : cap = 0
              · subst hcap
                have : len = 0 := by omega
                subst this
                refine ⟨[], R0_pos, by simp only [bigK], by simp only [fewK], ?_, rfl⟩
                simp only [V0, cellsK]
                exact ⟨some a, 0, rfl, by simp, by simp [gr], by simp [Grip.isTok, gr], .inl (by simp)⟩
              · have hsp := hsp rfl
                have key : ∀ i, i < cap → ∃ cs' y, w.cells? base (a.add (i * 6)) 6 = some cs' ∧ DataW.trod enc Try.prog w base (fun _ => true) held n2 28 cs' = some y := by
                  intro i hi
                  by_cases hil : i < len
                  · have h1 := hel i hil
                    rw [cells28] at h1
                    have h2 : elems[i]? = some (elems[i]'(by omega)) := List.getElem?_eq_getElem (by omega)
                    rw [h2] at h1
                    obtain ⟨cs', k1, k2⟩ := Option.bind_eq_some_iff.mp h1
                    exact ⟨cs', _, k1, k2⟩
                  · have h1 := hsp.2 (i - len) (by omega)
                    rw [cells28, show len + (i - len) = i by omega] at h1
                    have h2 : rest[i - len]? = some (rest[i - len]'(by omega)) := List.getElem?_eq_getElem (by omega)
                    rw [h2] at h1
                    obtain ⟨cs', k1, k2⟩ := Option.bind_eq_some_iff.mp h1
                    exact ⟨cs', _, k1, k2⟩
                obtain ⟨bl, of, spot⟩ := a
                have hs : spot = none := by
                  obtain ⟨cs', y, k1, k2⟩ := key 0 (by omega)
                  obtain ⟨_, h2, h3⟩ := World.cells?_some k1
                  have h4 := h3 0 (by omega)
                  have h5 : cs'[0]? = some (cs'[0]'(by omega)) := List.getElem?_eq_getElem (by omega)
                  rw [h5] at h4
                  simpa [Addr.add] using World.cell?_spot h4
                subst hs
                obtain ⟨ks, k0, k1, k2, k3⟩ := VC_terms (S := old w) (w := w) (b := bl) R0 len of fun i hi => by
                  obtain ⟨cs', y, a1, a2⟩ := key i (by omega)
                  obtain ⟨t, b1, b2, b3, b4⟩ := openT_cells n2 cs' y a2
                  refine ⟨t, b1, b2, VC_of_VL _ _ _ b3 fun j v hj => ?_⟩
                  obtain ⟨_, c1, c2⟩ := World.cells?_some a1
                  have hj6 : j < 6 := by rw [← c1]; exact (List.getElem?_eq_some_iff.mp hj).1
                  have c3 := c2 j hj6
                  rw [hj, add_none, add_none] at c3
                  exact ⟨cell_lt c3, c3⟩
                refine ⟨ks, by rw [k0]; exact R0_in (by omega), k1, k2, ?_, rfl⟩
                simp only [V0]
                exact ⟨_, cap, by rw [k0], by rw [k0]; exact hle, by simp [gr], by simp [Grip.isTok, gr], .inr ⟨bl, of, rfl, k3⟩⟩
          obtain ⟨ks, hk1, hk2, hk3, hk4, hk5⟩ := hkids
          refine ⟨.mk k b .l l s.data.toList m .l ks, ?_, ?_, ?_, rfl⟩
          · simp only [bigT]
            exact ⟨hL, by have : s.data.toList.length = s.size := Array.length_toList
                          rw [this]; exact R0_in (by omega), hk2⟩
          · simp only [fewT]
            exact ⟨hLl, hk1, hk3⟩
          · simp only [cellsT, VL]
            exact ⟨_, _, rfl, rfl, by simp only [V0], _, _, rfl, rfl, by simp only [V0], _, _, rfl, hO2, hV2, _, _, rfl, rfl, V0_str s, _, _, rfl, rfl, by simp only [V0], _, _, rfl, hk5, hk4, rfl⟩
termination_by fuel => fuel
decreasing_by all_goals omega
def IsTerm (w : World) (v : Value) : Prop := ∃ t : T, bigT R0 t ∧ fewT R0 t ∧ V0 (old w) w (encT t) v
theorem openTerm {r : Reach} {b0 : Nat} {v : Value} {d : DataW H} {ps : List MemPlace} (hval : Value.okWide Try.prog w r b0 28 v) (h : DataW.Trod enc Try.prog w base (fun _ => true) held 28 v d ps) : IsTerm w v := by
  obtain ⟨f0, f1, f2, f3, f4, hu, _, _⟩ := und28
  obtain ⟨cs, rfl, hsz⟩ := okWide_struct hu hval
  obtain ⟨fuel, hf⟩ := h
  obtain ⟨t, h1, h2, h3, _⟩ := openT_cells fuel _ _ hf
  refine ⟨t, h1, h2, ?_⟩
  simp only [encT, V0]
  exact ⟨cs.toList, by simp, by simpa [Value.cells] using h3⟩
end
end Go.Ab

/- Rows of terms in memory, as a statement's reading gives them. No conditions. -/
namespace Go.Ab
open Go.Proofs Go.RowKit
set_option maxRecDepth 100000
section
variable {H : Type} {enc : TypeId × Value → H} {w : World} {base : Nat} {held : Bool}
end
end Go.Ab

/- Lists of terms: term.List; rows of terms that grow. Conditions: lengths in range. -/
namespace Go.Ab
open Go.Proofs
set_option maxRecDepth 100000
set_option linter.unusedSimpArgs false

theorem callQ_loose {call : FuncId → List Arg → Option Out} {f : FuncId} {vs vs' : List AV} {v : AV} {os : List (List AV)} (h0 : vs.all isTree = false) (ht : vs.all isLent = true) (e : vs.map loosen = vs') (hc : call f (vs'.map Arg.tree) = some (.tree v, os)) : callQ call f vs = some v := by
  have e2 : (vs.map fun v => Arg.tree (loosen v)) = vs'.map .tree := by rw [← e]; simp
  simp only [callQ, h0, ht, Bool.false_eq_true, if_false, if_true, e2, hc, Option.bind_some]
def consT (h t : T) : T := .mk 4 false .n [] [] 0 .t [h, t]
def listT : List T → T → T
  | [], t => t
  | h :: r, t => consT h (listT r t)
theorem cells_cons (h t : T) : cellsT (consT h t) = consV (cellsT h) (cellsT t) := by
  simp only [consT, cellsT, cellsK, consV, List.append_nil, encL, encC, List.map_nil, List.length_nil, gr, List.length_cons, Nat.reduceAdd]
theorem chunk_K (ks : List T) (i : Nat) (t : T) (r : List T) (h : ks.drop i = t :: r) : chunk (cellsK ks) i = cellsT t := by
  rw [chunk, cellsK_drop, h]
  simp only [cellsK]
  rw [List.take_append_of_le_length (by rw [cellsT_len]; exact Nat.le_refl _), List.take_of_length_le (by rw [cellsT_len]; exact Nat.le_refl _)]
theorem listT_snoc (h : T) : ∀ (r : List T) (t : T), listT (r ++ [h]) t = listT r (consT h t)
  | [], t => rfl
  | a :: r, t => by simp only [List.cons_append, listT, listT_snoc h r t]
theorem lstN_K (ks : List T) : ∀ (n : Nat) (t : T), n ≤ ks.length → lstN (cellsK ks) n (cellsT t) = cellsT (listT (ks.take n) t)
  | 0, t, _ => rfl
  | n + 1, t, h => by
    have hd : ks.drop n = ks[n] :: ks.drop (n + 1) := List.drop_eq_getElem_cons h
    rw [lstN, chunk_K ks n _ _ hd, ← cells_cons, lstN_K ks n _ (by omega), List.take_succ_eq_append_getElem h, listT_snoc]
theorem tList_eq (n d : Nat) (ks : List T) (g : Grip) (t : T) (h : ks.length ≤ 9223372036854775807) : evalFn Try.prog cfg0 n (d+1) 84 [.tree (.sl (cellsK ks) ks.length g), .tree (encT t)] = some (.tree (encT (listT ks t)), [[], []]) := by
  have hp : prim0 84 [.tree (.sl (cellsK ks) ks.length g), .tree (encT t)] = some (.tree (encT (listT ks t)), [[], []]) := by
    unfold prim0
    rw [if_neg (by decide), if_pos (by decide)]
    have e := lstN_K ks ks.length t (Nat.le_refl _)
    rw [List.take_length] at e
    simp only [listP, encT]
    rw [if_pos ⟨cellsK_len ks, cellsT_len t, h⟩, e]
  have hc : cfg0.prim = prim0 := rfl
  rw [evalFn]
  simp only [hc, hp]
theorem by28 : decide (byOf Try.prog 28 ≤ 200) = true := by kernel_rfl
theorem zl28 : (zeroOf Try.prog 28).map List.length = some 6 := by kernel_rfl
def Ap (s : St) (d : Nat) (x : AV) (us : List T) : Prop := (us = [] ∧ x = .sl [] 0 .nil) ∨ (us ≠ [] ∧ ∃ t, x = .sl (cellsK us) us.length (.tok d t) ∧ s d = ⟨t, .tok 6⟩)
theorem Ap.push {s : St} {d : Nat} {x : AV} {us : List T} (h : Ap s d x us) (hl : us.length ≤ 1000000) (v : T) :
    ∃ x' s', appendA Try.prog #[26, 26] d s x (.sl (cellsT v) 1 .tight) = some (x', s') ∧ Ap s' d x' (us ++ [v]) ∧ ∀ q, q ≠ d → s' q = s q := by
  have hb := of_decide_eq_true by28
  have hk : cellsK (us ++ [v]) = cellsK us ++ cellsT v := by rw [cellsK_append]; simp only [cellsK, List.append_nil]
  have hm : ∀ s, moreA Try.prog 28 6 (some 26) s (.sl (cellsT v) 1 .tight) = some (cellsT v, 1) := fun s => by
    simp only [moreA, Option.map_some, tkTk, cellsT_len, Nat.one_mul, ↓reduceIte]
  have hc : (us.length + 1) * byOf Try.prog 28 ≤ 140737488355328 ∧ us.length + 1 ≤ 9223372036854775807 := by
    have : (us.length + 1) * byOf Try.prog 28 ≤ 1000001 * 200 := Nat.mul_le_mul (by omega) hb
    omega
  rcases h with ⟨rfl, rfl⟩ | ⟨_, t, rfl, hs⟩
  · refine ⟨_, upd s d ⟨(s d).t + 1, .tok 6⟩, ?_, .inr ⟨by simp, (s d).t + 1, rfl, upd_same _ _ _⟩, fun q hq => upd_ne _ _ hq⟩
    simp only [appendA, List.getElem?_toArray, List.getElem?_cons_zero, List.getElem?_cons_succ, Option.map_some, tkTk, eszT, Option.bind_some, hm, baseA, List.length_nil, Nat.zero_mul, ↓reduceIte, zl28, and_true]
    rw [if_pos (by simpa using hc)]
    simp [cellsK]
  · refine ⟨_, upd (upd s d ⟨t, .dead⟩) d ⟨t + 1, .tok 6⟩, ?_, .inr ⟨by simp, t + 1, rfl, upd_same _ _ _⟩, fun q hq => (upd_ne _ _ hq).trans (upd_ne _ _ hq)⟩
    simp only [appendA, List.getElem?_toArray, List.getElem?_cons_zero, List.getElem?_cons_succ, Option.map_some, tkTk, eszT, Option.bind_some, hm, baseA, hs, cellsK_len, and_self, ↓reduceIte, zl28, and_true]
    rw [if_pos hc]
    simp only [upd_same, List.length_append, List.length_cons, List.length_nil, Nat.zero_add, hk]
def kgOf (us : List T) : Gk := if us = [] then .n else .l
theorem Ap.settled {s : St} {d : Nat} {x : AV} {us : List T} (h : Ap s d x us) : Go.Ab.settled x = some (.sl (cellsK us) us.length (gr (kgOf us))) := by
  rcases h with ⟨rfl, rfl⟩ | ⟨hu, t, rfl, _⟩
  · rfl
  · simp only [Go.Ab.settled, kgOf, if_neg hu, gr]
end Go.Ab

/- Terms in their order: mathematics. Conditions: terms that may be. -/
namespace Go.Ab
open Go.Proofs
set_option maxRecDepth 100000
set_option linter.unusedSimpArgs false

end Go.Ab

/- The statement TermOrders. Conditions: limbs in range; texts in range. -/
namespace Go.Ab
open Go.Proofs
set_option maxRecDepth 100000
set_option linter.unusedSimpArgs false

mutual
theorem ht_nod : ∀ t : T, htT t ≤ nodT t
  | .mk _ _ _ _ _ _ _ ks => by have := htK_nod ks; simp only [htT, nodT]; omega
theorem htK_nod : ∀ ks : List T, htK ks ≤ nodK ks
  | [] => Nat.le_refl _
  | t :: r => by have := ht_nod t; have := htK_nod r; simp only [htK, nodK]; omega
end
mutual
theorem good_few : ∀ t : T, goodT t → fewT 100000 t
  | .mk k b lg l s m kg ks, h => by
    have ho := good_own h
    have h1 := ho.2.1
    simp only [ownT, Bool.and_eq_true, decide_eq_true_eq] at h1
    simp only [fewT]
    refine ⟨?_, ?_, goodK_few ks ho.2.2⟩
    · have h2 := h1.2.1.1.1
      by_cases hk : k = 1
      · rw [if_pos hk] at h2
        simp only [chkN, Bool.and_eq_true, decide_eq_true_eq] at h2
        omega
      · rw [if_neg hk] at h2
        simp only [zeroB, Bool.and_eq_true, decide_eq_true_eq] at h2
        omega
    · have h2 := h1.2.1.2
      by_cases k4 : k = 4
      · rw [if_pos k4, decide_eq_true_eq] at h2; omega
      · rw [if_neg k4] at h2
        by_cases k5 : k = 5
        · rw [if_pos k5, decide_eq_true_eq] at h2; omega
        · rw [if_neg k5, decide_eq_true_eq] at h2; omega
theorem goodK_few : ∀ ks : List T, goodK ks → fewK 100000 ks
  | [], _ => by simp only [fewK]
  | t :: r, h => by simp only [goodK] at h; simp only [fewK]; exact ⟨good_few t h.1, goodK_few r h.2⟩
end
end Go.Ab

/- The reference's own functions on numbers: reading, normal forms, comparing. Conditions: limbs in range, not too many. -/
namespace Go.Ab
open Go.Proofs
set_option maxRecDepth 100000
set_option linter.unusedSimpArgs false

theorem slice22h (s : St) (b : Gk) (l : List Nat) (k : Nat) (h : k ≤ l.length) : ∃ b', sliceA Try.prog 23 s (encL b l) none (some (.int .i64 (k : Int))) none = some (encL b' (l.take k)) := by
  have hx : (encC l).length = l.length * 1 := by rw [encC_len]; omega
  simp only [sliceA, tk22, encL, esz31, Option.isSome_none, Option.isNone_some, Bool.false_eq_true, false_and, if_false, boundA, Option.bind_some, hx, if_true, Int.toNat_natCast]
  rw [if_pos (by omega)]
  simp only [Option.bind_some, Nat.zero_mul, List.drop_zero, Nat.sub_zero, Nat.mul_one, encC_take]
  have hl : (l.take k).length = k := by rw [List.length_take]; omega
  rw [hl]
  by_cases hc : (false = true ∧ l.length = k) ∨ (none = (none : Option AV) ∧ (gr b = .tight ∨ gr b = .nil) ∧ k = l.length)
  · exact ⟨.t, by simp_all [gr]⟩
  · exact ⟨.l, by simp_all [gr]⟩
def encF (v : Nat) : AV := encL .l (digs v)
theorem rnorm_eq (n d : Nat) (b : Gk) (l : List Nat) (hl : Limbs l) (hn : l.length < n) (hlen : l.length ≤ 1000000) : evalFn Try.prog cfg0 n (d+1) 94 [.tree (encL b l)] = some (.tree (encF (val l)), [[]]) := by
  rw [evalFn_go _ Try.func94 (by unfold Try.f94; rfl) (by unfold Try.f94; decide) (Nat.le_of_ble_eq_true (by unfold Try.f94; rfl)) (by kernel_rfl)]
  simp only [simB, zbo, Nat.reduceBEq, own0, ↓reduceIte, Nat.reduceEqDiff, Nat.reduceAdd, simA, simL, st0_1, den_loop]
  refine loop_ends (X := Nat) (fun k env s => env 0 = encL b l ∧ env 3 = .int .i64 (k : Int) ∧ s = dead ∧ k ≤ l.length ∧ val (l.take k) = val l) id (fun _ => (.tree (encF (val l)), [[]])) ?_ n l.length _ _ hn ⟨rfl, rfl, rfl, Nat.le_refl _, by simp⟩
  intro k x hx ih env s ⟨h0, h3, hs, hk, hv⟩
  subst hs
  obtain ⟨b', e3⟩ := slice22h dead b l x hk
  have fin : (∀ y, x = y + 1 → l.getD y 0 ≠ 0) → encF (val l) = .sl (encC (l.take x)) (l.take x).length .loose := by
    intro hz
    have hd : digs (val l) = l.take x := by
      rw [← hv]
      refine digs_val _ (hl.take _) ?_
      intro u hu
      cases x with
      | zero => simp at hu
      | succ y =>
        have el : (l.take (y + 1)).length = y + 1 := by rw [List.length_take]; omega
        rw [List.getLast?_eq_getElem?, el, Nat.add_sub_cancel, List.getElem?_take, if_pos (Nat.lt_succ_self y)] at hu
        have := hz y rfl
        rw [List.getD_eq_getElem?_getD, hu] at this
        exact this
    rw [encF, hd]; rfl
  obtain ⟨s', p, t, ea, _⟩ := append22t 21 dead (.sl [] 0 .nil) [] (l.take x) b' (hold_nil _) (by simp only [List.length_nil, List.length_take]; omega)
  rw [List.nil_append] at ea
  have hf : finish1 (cfg0.keep 94) [Arg.tree (encL b l)].length s' (.sl (encC (l.take x)) (l.take x).length (.tok p t)) = some (.tree (.sl (encC (l.take x)) (l.take x).length .loose), s') := rfl
  by_cases hp : x = 0
  · subst hp
    have q1 : ¬ (((0 : Nat) : Int) > 0) := by omega
    simp only [simB, zbo, Nat.reduceBEq, own0, ↓reduceIte, Nat.reduceEqDiff, Nat.reduceAdd, simL, h0, h3, q1, Option.map_none, e3, ea]
    rw [fin (by omega)]
    exact finish_tree _ _ _ _ _ _ (.sl (encC (l.take 0)) (l.take 0).length (.tok p t)) _ _ (by simp only [zfk, ↓reduceIte]) hf rfl
  · obtain ⟨y, rfl⟩ : ∃ y, x = y + 1 := ⟨x - 1, by omega⟩
    have p1 : ((y + 1 : Nat) : Int) > 0 := by omega
    have p2 : ((y + 1 : Nat) : Int) - 1 = (y : Int) := by omega
    have p3 : (y : Int) < l.length := by omega
    have p4 : y < l.length := by omega
    have p6 : (0 : Int) ≤ y := by omega
    have e1 : binA Try.prog .sub 3 (.int .i64 ((y + 1 : Nat) : Int)) (.int .i64 1) = some (.int .i64 (y : Int)) := by rw [i_sub _ _ _ _ (by omega) (by omega), p2]
    by_cases hz : l.getD y 0 = 0
    · have p5 : (((l.getD y 0 : Nat) : Int) == 0) = true := by rw [hz]; rfl
      simp only [simB, zbo, Nat.reduceBEq, own0, ↓reduceIte, Nat.reduceEqDiff, Nat.reduceAdd, simL, h0, h3, p1, e1, p6, p3, Int.toNat_natCast, p4, p5]
      refine ih y _ _ (Nat.lt_succ_self _) rfl ⟨?_, ?_, rfl, by omega, ?_⟩
      · simp only [zfk, ↓reduceIte, Nat.reduceEqDiff, h0]
      · simp only [zfk, ↓reduceIte, Nat.reduceEqDiff]
      · rw [← hv, val_take_succ _ _ p4, hz, Nat.mul_zero, Nat.add_zero]
    · have p5 : (((l.getD y 0 : Nat) : Int) == 0) = false := by
        rw [beq_eq_false_iff_ne]; omega
      simp only [simB, zbo, Nat.reduceBEq, own0, ↓reduceIte, Nat.reduceEqDiff, Nat.reduceAdd, simL, h0, h3, p1, e1, p6, p3, Int.toNat_natCast, p4, p5, e3, ea]
      rw [fin (by intro y' hy'; have : y' = y := by omega
                  subst this; exact hz)]
      exact finish_tree _ _ _ _ _ _ (.sl (encC (l.take (y + 1))) (l.take (y + 1)).length (.tok p t)) _ _ (by simp only [zfk, ↓reduceIte]) hf rfl
end Go.Ab

/- The reference's own functions on numbers: Cmp, Add, Sub. Conditions: limbs in range, not too many. -/
namespace Go.Ab
open Go.Proofs
set_option maxRecDepth 100000
set_option linter.unusedSimpArgs false

end Go.Ab

/- The reference's own functions on numbers: Add, Sub. Conditions: limbs in range, not too many. -/
namespace Go.Ab
open Go.Proofs
set_option maxRecDepth 100000
set_option linter.unusedSimpArgs false

end Go.Ab

/- The reference's Sub. Conditions: limbs in range, not too many. -/
namespace Go.Ab
open Go.Proofs
set_option maxRecDepth 100000
set_option linter.unusedSimpArgs false

end Go.Ab

/- The reference's Mul. Conditions: limbs in range, not too many. -/
namespace Go.Ab
open Go.Proofs
set_option maxRecDepth 100000
set_option linter.unusedSimpArgs false

end Go.Ab

/- The reference's Shr. Conditions: limbs in range, not too many. -/
namespace Go.Ab
open Go.Proofs
set_option maxRecDepth 100000
set_option linter.unusedSimpArgs false

theorem tk42 : tkOf Try.prog 44 = .int .u64 := by kernel_rfl
theorem conv3_42 (s : St) (x : Nat) (h : x < 4294967296) : convA Try.prog 3 44 s (.int .i64 (x : Int)) = some (.int .u64 (x : Int)) := by
  simp only [convA, tk3, tk42]
  rw [u64_wrap, Nat.mod_eq_of_lt (by omega)]
end Go.Ab

/- The reference's Len. Conditions: limbs in range, not too many. -/
namespace Go.Ab
open Go.Proofs
set_option maxRecDepth 100000
set_option linter.unusedSimpArgs false

theorem rnorm_call (n d : Nat) (b : Gk) (o : List Nat) (ho : Limbs o) (hn : o.length < n) (hl : o.length ≤ 1000000) (D : Nat) (s : St) : callA cfg0 (evalFn Try.prog cfg0 n (d + 1)) D s 94 [encL b o] = some (encF (val o), s) :=
  callA_L1 _ D s 94 b o _ (rnorm_eq n d b o ho hn hl)
theorem rlen_eq (n d : Nat) (b : Gk) (l : List Nat) (hl : Limbs l) (hn : 32 * l.length + 2 < n) (hlen : l.length ≤ 100000) : evalFn Try.prog cfg0 n (d+2) 92 [.tree (encL b l)] = some (.tree (.int .i64 ((blen (val l) : Nat) : Int)), [[]]) := by
  rw [evalFn_go _ Try.func92 (by unfold Try.f92; rfl) (by unfold Try.f92; decide) (Nat.le_of_ble_eq_true (by unfold Try.f92; rfl)) (by kernel_rfl)]
  have c1 := rnorm_call n d b l hl (by omega) (by omega)
  have hd := digs_len (val l) l.length (val_lt l hl)
  have hvd := val_digs (val l)
  have hdl := limbs_digs (val l)
  obtain ⟨m, hm⟩ : ∃ m, m = digs (val l) := ⟨_, rfl⟩
  have hF : encF (val l) = encL .l m := by rw [encF, hm]
  rw [← hm] at hd hvd hdl
  rw [hF] at c1
  have e1 := i_mul Try.prog 3 32 (m.length : Int) (by omega) (by omega)
  rw [show (32 : Int) * (m.length : Int) = ((32 * m.length : Nat) : Int) by omega] at e1
  simp only [simB, zbo, Nat.reduceBEq, own0, ↓reduceIte, Nat.reduceEqDiff, Nat.reduceAdd, simA, simL, st0_1, c1, e1, den_loop]
  refine loop_ends (X := Nat) (fun k env s => env 3 = encL .l m ∧ env 4 = .int .i64 (k : Int) ∧ s = dead ∧ k ≤ 32 * m.length ∧ val l < 2 ^ k) id (fun _ => (.tree (.int .i64 ((blen (val l) : Nat) : Int)), [[]])) ?_ n (32 * m.length) _ _ (by simp only [id]; omega) ⟨rfl, rfl, rfl, Nat.le_refl _, by rw [← hvd, ← B_pow]; exact val_lt m hdl⟩
  intro k x hx ih env s ⟨h3, h4, hs, hk, hv⟩
  subst hs
  by_cases hp : x = 0
  · subst hp
    have q1 : ¬ (((0 : Nat) : Int) > 0) := by omega
    have hv0 : val l = 0 := by rw [Nat.pow_zero] at hv; omega
    simp only [simB, zbo, Nat.reduceBEq, own0, ↓reduceIte, Nat.reduceEqDiff, Nat.reduceAdd, simL, h3, h4, q1]
    rw [hv0]
    exact finish_tree _ _ _ _ _ _ (.int .i64 ((0 : Nat) : Int)) _ _ (by simp only [zfk, ↓reduceIte]) rfl rfl
  · obtain ⟨y, rfl⟩ : ∃ y, x = y + 1 := ⟨x - 1, by omega⟩
    have p1 : ((y + 1 : Nat) : Int) > 0 := by omega
    have f1 : binA Try.prog .sub 3 (.int .i64 ((y + 1 : Nat) : Int)) (.int .i64 1) = some (.int .i64 (y : Int)) := by rw [i_sub _ _ _ _ (by omega) (by omega), show ((y + 1 : Nat) : Int) - 1 = (y : Int) by omega]
    have g1 := i_quo Try.prog 3 y 32 (by decide) (by omega)
    have g2 := i_rem Try.prog 3 y 32 (by decide)
    rw [show ((32 : Nat) : Int) = 32 from rfl] at g1 g2
    have p3 : ((y / 32 : Nat) : Int) < m.length := by omega
    have p4 : y / 32 < m.length := by omega
    have p7 : (0 : Int) ≤ ((y / 32 : Nat) : Int) := by omega
    have e10 : convA Try.prog 3 44 dead (.int .i64 ((y % 32 : Nat) : Int)) = some (.int .u64 ((y % 32 : Nat) : Int)) := conv3_42 dead _ (by omega)
    have hlw := getD_lt m hdl (y / 32)
    have g3 := s_shr Try.prog 56 (m.getD (y / 32) 0) .u64 ((y % 32 : Nat) : Int) (by omega) (by omega)
    rw [Int.toNat_natCast] at g3
    have g4 := s_and1 Try.prog 56 (m.getD (y / 32) 0 / 2 ^ (y % 32)) (Nat.lt_of_le_of_lt (Nat.div_le_self _ _) hlw)
    have hbl := bit_limb m hdl y
    rw [hvd] at hbl
    rw [hbl] at g4
    rw [pow1] at hv
    have h2p := Nat.two_pow_pos y
    have hq : val l / 2 ^ y < 2 := by rw [Nat.div_lt_iff_lt_mul h2p]; exact hv
    by_cases hz : val l / 2 ^ y % 2 = 0
    · have p5 : (((val l / 2 ^ y % 2 : Nat) : Int) == 0) = true := by rw [hz]; rfl
      simp only [simB, zbo, Nat.reduceBEq, own0, ↓reduceIte, Nat.reduceEqDiff, Nat.reduceAdd, simL, h3, h4, p1, f1, g1, g2, p7, p3, p4, Int.toNat_natCast, e10, g3, g4, p5]
      refine ih y _ _ (Nat.lt_succ_self _) rfl ⟨?_, ?_, rfl, by omega, ?_⟩
      · simp only [zfk, ↓reduceIte, Nat.reduceEqDiff, h3]
      · simp only [zfk, ↓reduceIte, Nat.reduceEqDiff]
      · have h0 : val l / 2 ^ y = 0 := by
          clear g4 hbl
          generalize val l / 2 ^ y = qq at *
          omega
        rcases Nat.lt_or_ge (val l) (2 ^ y) with h | h
        · exact h
        · have := Nat.div_pos h h2p; omega
    · have p5 : (((val l / 2 ^ y % 2 : Nat) : Int) == 0) = false := by
        rw [beq_eq_false_iff_ne]
        clear g4 hbl
        generalize val l / 2 ^ y % 2 = bit at *
        omega
      simp only [simB, zbo, Nat.reduceBEq, own0, ↓reduceIte, Nat.reduceEqDiff, Nat.reduceAdd, simL, h3, h4, p1, f1, g1, g2, p7, p3, p4, Int.toNat_natCast, e10, g3, g4, p5]
      have hge : 2 ^ y ≤ val l := by
        rcases Nat.lt_or_ge (val l) (2 ^ y) with h | h
        · rw [Nat.div_eq_of_lt h] at hz; exact absurd rfl hz
        · exact h
      rw [blen_of (val l) y hge (by rw [pow1]; exact hv)]
      exact finish_tree _ _ _ _ _ _ (.int .i64 ((y + 1 : Nat) : Int)) _ _ (by simp only [zfk, ↓reduceIte]) rfl rfl
end Go.Ab

/- The reference's Shl. Conditions: limbs in range, not too many. -/
namespace Go.Ab
open Go.Proofs
set_option maxRecDepth 100000
set_option linter.unusedSimpArgs false

end Go.Ab

/- The reference's Div. Conditions: limbs in range, not too many. -/
namespace Go.Ab
open Go.Proofs
set_option maxRecDepth 100000
set_option linter.unusedSimpArgs false

section
variable (n d : Nat) (hn : 100000 ≤ n) (D : Nat) (s : St)
include hn
theorem rcLen {w : AV} {v : Nat} (h : Num w v) : callA cfg0 (evalFn Try.prog cfg0 n (d+2)) D s 92 [w] = some (.int .i64 ((blen v : Nat) : Int), s) := by
  obtain ⟨l, hs, hl, hk, rfl⟩ := h
  exact callA_S1 _ D s 92 hs _ fun b => rlen_eq n d b l hl (by omega) (by omega)
end
end Go.Ab

/- The reference's numbers: what is a number, made of limbs, of ints; its compare. Conditions: limbs in range. -/
namespace Go.Ab
open Go.Proofs
set_option maxRecDepth 100000
set_option linter.unusedSimpArgs false

set_option maxHeartbeats 2000000 in
theorem ris_eq (n d : Nat) (neg : Bool) (g : Gk) (l : List Nat) (hl : Limbs l) : evalFn Try.prog cfg0 n (d+2) 91 [.tree (encA neg g l)] = some (.tree (canA (gz neg g l) (numZ neg l)), [[]]) := by
  rw [evalFn_go _ Try.func91 (by unfold Try.f91; rfl) (by unfold Try.f91; decide) (Nat.le_of_ble_eq_true (by unfold Try.f91; rfl)) (by kernel_rfl)]
  have c1 := fun D s => cRcheck n d neg g l hl D s
  cases h : chkN neg l with
  | false =>
    rw [canA_no h]
    simp only [simB, zbo, Nat.reduceBEq, own0, ↓reduceIte, Nat.reduceEqDiff, Nat.reduceAdd, simA, simL, simN, Nat.zero_add, st0_1, c1, h]
    exact finish_c _ _ 2 2 1 _ _ _ _ _ (by simp only [zfk, ↓reduceIte, Nat.reduceEqDiff]) (by simp only [zfk, ↓reduceIte, Nat.reduceEqDiff]) rfl
  | true =>
    rw [canA_of hl h]
    simp only [simB, zbo, Nat.reduceBEq, own0, ↓reduceIte, Nat.reduceEqDiff, Nat.reduceAdd, simA, simL, simN, Nat.zero_add, st0_1, c1, h]
    exact finish_c _ _ 2 2 1 _ _ _ _ _ (by simp only [zfk, ↓reduceIte, Nat.reduceEqDiff]) (by simp only [zfk, ↓reduceIte, Nat.reduceEqDiff]) rfl
theorem cRis (n d : Nat) {w : AV} {z : Int} (h : IsN w z) : ∃ g, ∀ D s, callA cfg0 (evalFn Try.prog cfg0 n (d+2)) D s 91 [w] = some (canA g z, s) := by
  obtain ⟨neg, g, l, rfl, hl, rfl⟩ := h
  exact ⟨_, fun D s => callA_trees rfl (ris_eq n d neg g l hl)⟩
def gm (z : Int) : Gk := if z.natAbs < B ^ 12 then .l else .n
def madeF (z : Int) : AV := .tup [canA (gm z) (mkZ z).1, .bool (mkZ z).2]
theorem madeF_fit {z : Int} (h : z.natAbs < B ^ 12) : madeF z = .tup [canA .l z, .bool true] := by rw [madeF, mkZ_fit h, gm, if_pos h]
theorem lenF' (s : St) (v : Nat) : lenA Try.prog 23 s (encF v) = some (.int .i64 ((digs v).length : Int)) := zdx s _ _
theorem bd_2F (b : Bool) (v : Nat) : buildA Try.prog 25 [(0, .bool b), (1, encF v)] = some (.agg [.bool b, encF v]) := bd_2 _ _ _
set_option maxHeartbeats 2000000 in
theorem rmade_eq (n d : Nat) (neg : Bool) (g : Gk) (l : List Nat) (hl : Limbs l) (hn : l.length < n) (hk : l.length ≤ 1000000) : evalFn Try.prog cfg0 n (d+2) 86 [.tree (.bool neg), .tree (encL g l)] = some (.tree (madeF (sgn neg (val l))), [[], []]) := by
  rw [evalFn_go _ Try.func86 (by unfold Try.f86; rfl) (by unfold Try.f86; decide) (Nat.le_of_ble_eq_true (by unfold Try.f86; rfl)) (by kernel_rfl)]
  have c1 := fun D s => callA_L1 (evalFn Try.prog cfg0 n (d+1)) D s 94 g l _ (rnorm_eq n d g l hl hn hk)
  generalize hv : val l = v at *
  have hp : (((digs v).length : Nat) : Int) > 0 ↔ v ≠ 0 := by
    have := digs_len0 v
    omega
  have hd : decide ((((digs v).length : Nat) : Int) > 0) = decide (v ≠ 0) := by
    rw [decide_eq_decide]; exact hp
  have hm : mkZ (sgn neg v) = if v < B ^ 12 then (sgn neg v, true) else (0, false) := by rw [mkZ, sgn_abs]
  by_cases hf : v < B ^ 12
  · have hlen : ¬ (((digs v).length : Nat) : Int) > 12 := by have := digs_len v 12 hf; omega
    rw [madeF_fit (by rw [sgn_abs]; exact hf)]
    have he : (.agg [.bool (neg && decide (v ≠ 0)), encF v] : AV) = canA .l (sgn neg v) := by
      unfold canA; rw [sgn_neg, sgn_abs]; rfl
    rw [← he]
    cases neg with
    | false =>
      simp only [simB, zbo, Nat.reduceBEq, own0, ↓reduceIte, Nat.reduceEqDiff, Nat.reduceAdd, simA, simL, simN, Nat.zero_add, st0_2, c1, lenF', hlen, bd_2F]
      exact finish_ct _ _ 4 4 1 _ _ _ _ _ _ _ (by simp only [zfk, ↓reduceIte, Nat.reduceEqDiff]) (by simp only [zfk, ↓reduceIte, Nat.reduceEqDiff]) (by simp only [zfk, ↓reduceIte, Nat.reduceEqDiff]) rfl
    | true =>
      simp only [simB, zbo, Nat.reduceBEq, own0, ↓reduceIte, Nat.reduceEqDiff, Nat.reduceAdd, simA, simL, simN, Nat.zero_add, st0_2, c1, lenF', hlen, hd, bd_2F]
      exact finish_ct _ _ 4 4 1 _ _ _ _ _ _ _ (by simp only [zfk, ↓reduceIte, Nat.reduceEqDiff]) (by simp only [zfk, ↓reduceIte, Nat.reduceEqDiff]) (by simp only [zfk, ↓reduceIte, Nat.reduceEqDiff]) rfl
  · have hlen : (((digs v).length : Nat) : Int) > 12 := by
      have h1 := val_lt (digs v) (limbs_digs v)
      rw [val_digs] at h1
      rcases Nat.lt_or_ge 12 (digs v).length with h2 | h2
      · omega
      · exact absurd (Nat.lt_of_lt_of_le h1 (Nat.pow_le_pow_right (by decide) h2)) hf
    have he : madeF (sgn neg v) = .tup [encA false .n [], .bool false] := by
      rw [madeF, hm, if_neg hf, gm, if_neg (by rw [sgn_abs]; exact hf)]
      simp [canA, digs_0]
    rw [he]
    simp only [simB, zbo, Nat.reduceBEq, own0, ↓reduceIte, Nat.reduceEqDiff, Nat.reduceAdd, simA, simL, simN, Nat.zero_add, st0_2, c1, lenF', hlen]
    exact finish_ct _ _ 4 4 1 _ _ _ _ _ _ _ (by simp only [zfk, ↓reduceIte, Nat.reduceEqDiff]) (by simp only [zfk, ↓reduceIte, Nat.reduceEqDiff]) (by simp only [zfk, ↓reduceIte, Nat.reduceEqDiff]) rfl
section
variable (n d : Nat) (hn : 100000 ≤ n) (D : Nat) (s : St)
include hn
theorem cRmade {w : AV} {v : Nat} (h : Num w v) (neg : Bool) : callA cfg0 (evalFn Try.prog cfg0 n (d+2)) D s 86 [.bool neg, w] = some (madeF (sgn neg v), s) := by
  obtain ⟨l, hs, hl, hk, rfl⟩ := h
  exact callA_bS _ D s _ hs neg _ fun g => rmade_eq n d neg g l hl (by omega) (by omega)
end
set_option maxHeartbeats 2000000 in
theorem rof64_eq (n d : Nat) (hn : 100000 ≤ n) (z : Int) (h : -9223372036854775808 ≤ z) (h' : z ≤ 9223372036854775807) : evalFn Try.prog cfg0 n (d+3) 63 [.tree (.int .i64 z)] = some (.tree (canA .l z), [[]]) := by
  rw [evalFn_go _ Try.func63 (by unfold Try.f63; rfl) (by unfold Try.f63; decide) (Nat.le_of_ble_eq_true (by unfold Try.f63; rfl)) (by kernel_rfl)]
  have hz : z.natAbs ≤ 9223372036854775808 := by omega
  have hfit : z.natAbs < B ^ 12 := by have := B12_big; omega
  have c0 := fun s => conv3_55 s z h h'
  have key : ∀ (x : Nat), x = z.natAbs → x < 18446744073709551616 →
      (∀ s, convA Try.prog 72 56 s (.int .u64 (x : Int)) = some (.int .u32 ((x % 4294967296 : Nat) : Int))) ∧
      binA Try.prog .shr 72 (.int .u64 (x : Int)) (.int .u64 32) = some (.int .u64 ((x / 4294967296 : Nat) : Int)) ∧
      (∀ s, convA Try.prog 72 56 s (.int .u64 ((x / 4294967296 : Nat) : Int)) = some (.int .u32 ((x / 4294967296 % 4294967296 : Nat) : Int))) ∧
      (∀ D s, callA cfg0 (evalFn Try.prog cfg0 n (d+2)) D s 86 [.bool (decide (z < 0)), .sl [.int .u32 ((x % 4294967296 : Nat) : Int), .int .u32 ((x / 4294967296 % 4294967296 : Nat) : Int)] 2 .tight] = some (.tup [canA .l z, .bool true], s)) := by
    intro x hx hlt
    refine ⟨fun s => zeg s x, ?_, fun s => zeg s _, fun D s => ?_⟩
    · have := u_shr Try.prog 72 x .u64 32 (by decide) (by decide)
      rw [show (2 : Nat) ^ (32 : Int).toNat = 4294967296 from rfl] at this
      exact this
    · have hnum : Num (.sl [.int .u32 ((x % 4294967296 : Nat) : Int), .int .u32 ((x / 4294967296 % 4294967296 : Nat) : Int)] 2 .tight) x := by
        refine ⟨[x % 4294967296, x / 4294967296 % 4294967296], ⟨_, rfl⟩, limbs_cons (Nat.mod_lt _ (by decide)) (limbs_one (Nat.mod_lt _ (by decide))), by simp, ?_⟩
        show x % 4294967296 + 4294967296 * (x / 4294967296 % 4294967296 + 4294967296 * 0) = x
        omega
      have := cRmade n d hn D s hnum (decide (z < 0))
      rw [hx, sgn_of, madeF_fit hfit] at this
      rw [hx]; exact this
  by_cases hneg : z < 0
  · rw [if_pos hneg] at c0
    have u := un_neg64 (18446744073709551616 - z.natAbs) (by omega)
    rw [show (18446744073709551616 - (18446744073709551616 - z.natAbs)) % 18446744073709551616 = z.natAbs by omega] at u
    obtain ⟨k1, k2, k3, k4⟩ := key z.natAbs rfl (by omega)
    rw [decide_eq_true hneg] at k4
    simp only [simB, zbo, Nat.reduceBEq, own0, ↓reduceIte, Nat.reduceEqDiff, Nat.reduceAdd, simA, simL, simN, Nat.zero_add, st0_1, c0, hneg, u, k1, k2, k3, opA_two, two22_int, k4, ext_0, ext_1, zes]
    exact finish_c _ _ 2 2 1 _ _ _ _ _ (by simp only [zfk, ↓reduceIte, Nat.reduceEqDiff]) (by simp only [zfk, ↓reduceIte, Nat.reduceEqDiff, hneg, decide_true, decide_false]) rfl
  · rw [if_neg hneg] at c0
    obtain ⟨k1, k2, k3, k4⟩ := key z.natAbs rfl (by omega)
    rw [decide_eq_false hneg] at k4
    simp only [simB, zbo, Nat.reduceBEq, own0, ↓reduceIte, Nat.reduceEqDiff, Nat.reduceAdd, simA, simL, simN, Nat.zero_add, st0_1, c0, hneg, k1, k2, k3, opA_two, two22_int, k4, ext_0, ext_1, zes]
    exact finish_c _ _ 2 2 1 _ _ _ _ _ (by simp only [zfk, ↓reduceIte, Nat.reduceEqDiff]) (by simp only [zfk, ↓reduceIte, Nat.reduceEqDiff, hneg, decide_true, decide_false]) rfl
end Go.Ab

/- Small Ints as terms; rows and lists of them, compared. Conditions: numbers that Go has. -/
namespace Go.Ab
open Go.Proofs
set_option maxRecDepth 100000
set_option linter.unusedSimpArgs false

def I64 (v : Int) : Prop := -9223372036854775808 ≤ v ∧ v ≤ 9223372036854775807
def intT (v : Int) : T := .mk 1 (decide (v < 0)) .l (digs v.natAbs) [] 0 .n []
def nilT' : T := .mk 3 false .n [] [] 0 .n []
def tupT (kg : Gk) (us : List T) : T := .mk 5 false .n [] [] 0 kg us
end Go.Ab

/- The statement TermTuples. Conditions: numbers that Go has. -/
namespace Go.Ab
open Go.Proofs
set_option maxRecDepth 100000
set_option linter.unusedSimpArgs false

def intsA (xs : List Int) : List AV := xs.map (AV.int .i64)
theorem bs1T (e : T) : (fillA (fun i => some (i * 6, 6)) (rep 1 zeroT6) [(0, .agg (cellsT e))]).map (AV.sl · 1 .tight) = some (.sl (cellsT e) 1 .tight) := by
  have h := cellsT_len e
  have a1 : splice (rep 1 zeroT6) (0 * 6) (cellsT e) = cellsT e := by
    simp only [splice, Nat.zero_mul, List.take_zero, List.nil_append, Nat.zero_add, h]; exact List.append_nil _
  simp only [fillA, settled, Option.bind_some, cellsOf]
  rw [if_pos ⟨h, by decide⟩, a1]
  rfl
theorem Ap.tup {s : St} {d : Nat} {x : AV} {us : List T} (h : Ap s d x us) : buildA Try.prog 28 [(0, .int .i64 5), (4, x)] = some (.agg (cellsT (tupT (kgOf us) us))) := by
  have hs := h.settled
  simp only [buildA, zeroT, tkT, plT, Option.bind_some, fillA, List.getElem?_cons_zero, List.getElem?_cons_succ, hs]
  simp only [tupT, cellsT, encL, encC, List.map_nil, List.length_nil, gr]
  rfl
theorem Ap.list {s : St} {d : Nat} {x : AV} {us : List T} (h : Ap s d x us) (hl : us.length ≤ 1000000) (R D : Nat) : callQ (evalFn Try.prog cfg0 R (D+1)) 84 [x, encT nilT'] = some (encT (listT us nilT')) := by
  rcases h with ⟨rfl, rfl⟩ | ⟨_, t, rfl, _⟩
  · exact callQ_trees (vs := [.sl [] 0 .nil, encT nilT']) rfl (tList_eq R D [] .nil nilT' (by decide))
  · exact callQ_loose (vs := [.sl (cellsK us) us.length (.tok d t), encT nilT']) rfl rfl rfl (tList_eq R D us .loose nilT' (by omega))

section
variable (R : Nat) (hR : 100000 ≤ R) (xs ys : List Int) (hx : ∀ x ∈ xs, I64 x) (hy : ∀ x ∈ ys, I64 x) (hxk : xs.length ≤ 30) (hyk : ys.length ≤ 30) (gx gy : Grip) (x5 x6 : AV) (s1 s2 : St) (ap : Ap s1 36 x5 (xs.map intT)) (ap2 : Ap s2 50 x6 (ys.map intT))
include hR hx hy hxk hyk ap ap2
end
end Go.Ab
