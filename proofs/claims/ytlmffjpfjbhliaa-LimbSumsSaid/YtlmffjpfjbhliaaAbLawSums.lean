/- The walk of LimbSums: it gives true, and leaves memory below as it was. No conditions. -/
import Derived.Test.YtlmffjpfjbhliaaAbL11
import Derived.Test.YtlmffjpfjbhliaaAbRow
namespace Go.Ab
open Go.Proofs Go.RowKit
theorem limbsOf {w : World} {a : Option Addr} {len cap : Nat} {zs : List Int} (h : IsRow .u32 w a len cap zs) : ∃ l : List Nat, Limbs l ∧ V0 (old w) w (encL false l) (.slice a len cap) := by
  refine ⟨(zs.take len).map Int.toNat, ?_, ?_⟩
  · intro x hx
    obtain ⟨z, hz, rfl⟩ := List.mem_map.mp hx
    have hz := List.mem_of_mem_take hz
    rcases h with ⟨_, _, _, rfl⟩ | ⟨_, _, _, _, _, _, hw⟩
    · cases hz
    · have := hw z hz
      simp [Lit.wf, IntKind.min, IntKind.max, IntKind.bits, IntKind.signed] at this
      omega
  · have hl : len ≤ zs.length := by
      rcases h with ⟨_, rfl, _, _⟩ | ⟨_, _, h1, _, h2, _, _⟩ <;> omega
    have e : encL false ((zs.take len).map Int.toNat) = .sl ((zs.take len).map (AV.int .u32)) len .loose := by
      simp only [encL, encC, List.map_map, List.length_map, List.length_take, gr]
      rw [Nat.min_eq_left hl]
      congr 1
      refine List.map_congr_left fun z hz => ?_
      have hz := List.mem_of_mem_take hz
      rcases h with ⟨_, _, _, rfl⟩ | ⟨_, _, _, _, _, _, hw⟩
      · cases hz
      · have := hw z hz
        simp [Lit.wf, IntKind.min, IntKind.max, IntKind.bits, IntKind.signed] at this
        simp; omega
    rw [e]
    exact V0_row h
theorem isTree_L (b : Bool) (l : List Nat) : isTree (encL b l) = true := by cases b <;> rfl
theorem mixed : Try.prog.follows .mixedOrders = true := by kernel_rfl
theorem st0_3 (u v w : AV) : st0 [.tree u, .tree v, .tree w] = dead := by
  funext j
  match j with
  | 0 | 1 | 2 | _ + 3 => simp [st0, dead]
theorem walkSums (a0 : Option Addr) (len0 cap0 : Nat) (z0 : List Int) (a1 : Option Addr) (len1 cap1 : Nat) (z1 : List Int) (a2 : Option Addr) (len2 cap2 : Nat) (z2 : List Int) (w : World) (h0 : IsRow .u32 w a0 len0 cap0 z0) (h1 : IsRow .u32 w a1 len1 cap1 z1) (h2 : IsRow .u32 w a2 len2 cap2 z2) :
    Calls Try.prog 4 #[.slice a0 len0 cap0, .slice a1 len1 cap1, .slice a2 len2 cap2] w fun e w' => e = .returned (.bool true) ∧ Below w.heap.size w w' := by
  obtain ⟨l0, g0, v0⟩ := limbsOf h0
  obtain ⟨l1, g1, v1⟩ := limbsOf h1
  obtain ⟨l2, g2, v2⟩ := limbsOf h2
  refine lawCalls mixed (vs := [.slice a0 len0 cap0, .slice a1 len1 cap1, .slice a2 len2 cap2]) (sums_eq 100000 0 (Nat.le_refl _) false false false l0 l1 l2 g0 g1 g2) rfl (st0_3 _ _ _) (fun j v hj => ?_) true rfl
  match j, hj with
  | 0, hj => cases hj; exact ⟨v0, isTree_L _ _⟩
  | 1, hj => cases hj; exact ⟨v1, isTree_L _ _⟩
  | 2, hj => cases hj; exact ⟨v2, isTree_L _ _⟩
end Go.Ab
