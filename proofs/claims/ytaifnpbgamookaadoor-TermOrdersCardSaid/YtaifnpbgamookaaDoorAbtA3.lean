/- Numbers of ints, negatives, bits, sums. Conditions: limbs in range. -/
import Derived.Test.YtaifnpbgamookaaDoorAbtA2
namespace Go.Ab
open Go.Proofs
set_option maxRecDepth 100000
set_option linter.unusedSimpArgs false

def madeV (z : Int) : AV := .tup [encZ (mkZ z).1, .bool (mkZ z).2]
theorem callA_bS (call : FuncId → List Arg → Option Out) (d : Nat) (s : St) (f : FuncId) {w : AV} {l : List Nat} (h : Sh w l) (b : Bool) (v : AV) (hc : ∀ g, call f [.tree (.bool b), .tree (encL g l)] = some (.tree v, [[], []])) : callA cfg0 call d s f [.bool b, w] = some (v, s) := by
  obtain ⟨g, e⟩ := h.arg f s 1
  have e0 : argA cfg0 f s 0 (.bool b) = some (.tree (.bool b)) := rfl
  have g0 : ∀ a, givesOf (.bool b) a = none := fun a => by cases a <;> rfl
  have l0 : ∀ a, lendsOf (.bool b) a = none := fun a => by cases a <;> rfl
  simp [callA, argsA, e, e0, g0, l0, givesL, lendsL, h.gives, h.lends, hc, backA, resA]
section
variable (n d : Nat) (hn : 100000 ≤ n) (D : Nat) (s : St)
include hn
omit hn in
theorem Num.isL {w : AV} {v : Nat} (h : Num w v) (ht : isTree w = true) : ∃ g l, w = encL g l ∧ Limbs l ∧ l.length ≤ 1000 ∧ val l = v := by
  obtain ⟨l, ⟨g, rfl⟩, hl, hk, hv⟩ := h
  cases g with
  | tight => exact ⟨.t, l, rfl, hl, hk, hv⟩
  | loose => exact ⟨.l, l, rfl, hl, hk, hv⟩
  | nil => exact ⟨.n, l, rfl, hl, hk, hv⟩
  | tok p t => simp [isTree] at ht
theorem qAdd {w w' : AV} {v v' : Nat} (h : Num w v) (h' : Num w' v') (ht : isTree w = true) (ht' : isTree w' = true) : callQ (evalFn Tryd.prog cfg0 n (d+2)) 83 [w, w'] = some (encR (v + v')) := by
  obtain ⟨g, l, rfl, hl, hk, rfl⟩ := h.isL ht
  obtain ⟨g', l', rfl, hl', hk', rfl⟩ := h'.isL ht'
  exact callQ_trees (by cases g <;> cases g' <;> rfl) (fnAdd_eq n d g g' l l' hl hl' (by omega) (by omega) (by omega) (by omega))
theorem qSub {w w' : AV} {v v' : Nat} (h : Num w v) (h' : Num w' v') (ht : isTree w = true) (ht' : isTree w' = true) : callQ (evalFn Tryd.prog cfg0 n (d+4)) 84 [w, w'] = some (encR (v - v')) := by
  obtain ⟨g, l, rfl, hl, hk, rfl⟩ := h.isL ht
  obtain ⟨g', l', rfl, hl', hk', rfl⟩ := h'.isL ht'
  exact callQ_trees (by cases g <;> cases g' <;> rfl) (fnSub_eq n d g g' l l' hl hl' (by omega) (by omega) (by omega) (by omega))
theorem qShl {w : AV} {v : Nat} (h : Num w v) (ht : isTree w = true) (z : Int) : callQ (evalFn Tryd.prog cfg0 n (d+2)) 82 [w, .int .i64 z] = some (encR (v * 2 ^ shn z)) := by
  obtain ⟨g, l, rfl, hl, hk, rfl⟩ := h.isL ht
  exact callQ_trees (by cases g <;> rfl) (fnShl_eq n d g l z hl (by omega) (by omega))
end
theorem tree_R (v : Nat) : isTree (encR v) = true := by
  unfold encR; split <;> rfl
theorem tree_L (g : Gk) (l : List Nat) : isTree (encL g l) = true := by cases g <;> rfl
theorem tree_Z (z : Int) : isTree (encZ z) = true := rfl

/-! ### Of -/
theorem conv3_55 (s : St) (z : Int) (h : -9223372036854775808 ≤ z) (h' : z ≤ 9223372036854775807) : convA Tryd.prog 3 111 s (.int .i64 z) = some (.int .u64 (((if z < 0 then 18446744073709551616 - z.natAbs else z.natAbs : Nat)) : Int)) := by
  simp only [convA, tk3, tk40, IntKind.wrap, IntKind.bits, IntKind.signed]
  congr 2
  simp only [Bool.false_and, Bool.false_eq_true, if_false]
  rw [show (2 : Int) ^ 64 = 18446744073709551616 from rfl]
  split <;> omega
theorem un_neg64 (x : Nat) (h : x < 18446744073709551616) : unA .neg (.int .u64 (x : Int)) = some (.int .u64 (((18446744073709551616 - x) % 18446744073709551616 : Nat) : Int)) := by
  simp only [unA, IntKind.wrap, IntKind.bits, IntKind.signed]
  congr 2
  simp; omega
def two22 (v w : AV) : Option AV := (fillA (fun i => some (i * 1, 1)) (rep 2 [AV.int .u32 0]) [(0, v), (1, w)]).map (AV.sl · 2 .tight)
theorem two22_int (x y : Int) : two22 (.int .u32 x) (.int .u32 y) = some (.sl [.int .u32 x, .int .u32 y] 2 .tight) := rfl
theorem opA_two (call : FuncId → List Arg → Option Out) (q : Bool) (d : Option Tmp) (ty : TypeId) (pos : String) (af : Array Edge) (g : Option (Nat × Bool)) (t : Nat) (env : Env) (s : St) (x y : Operand) :
    opA Tryd.prog cfg0 call q ⟨d, .buildSlice 23 2 #[(0, x), (1, y)], ty, pos, af, g⟩ t env s = (two22 (ev env x) (ev env y)).map (·, s) := by
  rw [opA_bs]
  simp only [tk22, esz31, zero31, Option.bind_some, List.map_cons, List.map_nil]
  rfl
theorem madeV_fit {z : Int} (h : z.natAbs < B ^ 12) : madeV z = .tup [encZ z, .bool true] := by rw [madeV, mkZ_fit h]
theorem B12_big : 18446744073709551616 ≤ B ^ 12 := by
  have : B ^ 2 ≤ B ^ 12 := Nat.pow_le_pow_right (by decide) (by decide)
  have e : B ^ 2 = 18446744073709551616 := by decide
  omega
theorem ext_0 (a b : AV) : extA 0 (.tup [a, b]) = some a := rfl
theorem ext_1 (a b : AV) : extA 1 (.tup [a, b]) = some b := rfl
theorem st_Z (s : St) (p k : Nat) (z : Int) : storeA Tryd.prog 25 s (.ptr p k 0) (encZ z) = stE (s p) p k s [.bool (decide (z < 0)), encR z.natAbs] := zeb s p k _ _
/-! ### Neg, Bits -/
theorem sgn_flip (z : Int) : sgn (!decide (z < 0)) z.natAbs = -z := by
  unfold sgn
  by_cases h : z < 0
  · simp [h]; omega
  · simp [h]; omega
end Go.Ab
