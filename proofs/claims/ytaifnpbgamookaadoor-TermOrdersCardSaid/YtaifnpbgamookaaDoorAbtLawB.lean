/- Lists of limbs out of a statement's reading. No conditions. -/
import Derived.Test.YtaifnpbgamookaaDoorAbtLL
import Derived.Test.YtaifnpbgamookaaDoorAbtSh
namespace Go.Ab
open Go.Proofs Go.RowKit
theorem limbsOf {w : World} {a : Option Addr} {len cap : Nat} {zs : List Int} (h : IsRow .u32 w a len cap zs) : ∃ l : List Nat, Limbs l ∧ V0 (old w) w (encL .l l) (.slice a len cap) := by
  refine ⟨(zs.take len).map Int.toNat, ?_, ?_⟩
  · intro x hx
    obtain ⟨z, hz, rfl⟩ := List.mem_map.mp hx
    have hz := List.mem_of_mem_take hz
    rcases h with ⟨_, _, _, rfl⟩ | ⟨_, _, _, _, _, _, hw⟩
    · cases hz
    · have := hw z hz
      simp [Lit.wf, IntKind.min, IntKind.max, IntKind.bits, IntKind.signed] at this
      omega
  · have hl : len ≤ zs.length := by
      rcases h with ⟨_, rfl, _, _⟩ | ⟨_, _, h1, _, h2, _, _⟩ <;> omega
    have e : encL .l ((zs.take len).map Int.toNat) = .sl ((zs.take len).map (AV.int .u32)) len .loose := by
      simp only [encL, encC, List.map_map, List.length_map, List.length_take, gr]
      rw [Nat.min_eq_left hl]
      congr 1
      refine List.map_congr_left fun z hz => ?_
      have hz := List.mem_of_mem_take hz
      rcases h with ⟨_, _, _, rfl⟩ | ⟨_, _, _, _, _, _, hw⟩
      · cases hz
      · have := hw z hz
        simp [Lit.wf, IntKind.min, IntKind.max, IntKind.bits, IntKind.signed] at this
        simp; omega
    rw [e]
    exact V0_row h
theorem isTree_L (b : Gk) (l : List Nat) : isTree (encL b l) = true := by cases b <;> rfl
theorem mixed : Tryd.prog.follows .mixedOrders = true := by kernel_rfl
/-- A law's run. -/
theorem lawCalls (hm : Tryd.prog.follows .mixedOrders = true) {n d : Nat} {f : FuncId} {xs : List Arg} {vs : List Value} {w : World} {os : List (List AV)} {r : AV} (he : evalFn Tryd.prog cfg0 n d f xs = some (.tree r, os))
    (hl : xs.length = vs.length) (hs : st0 xs = fun _ => ⟨0, .dead⟩) (hv : ∀ (j : Nat) (v : Value), vs[j]? = some v → V0 (old w) w (env0 xs j) v ∧ isTree (env0 xs j) = true) (b : Bool) (hr : r = .bool b) :
    Calls Tryd.prog f vs.toArray w fun e w' => e = .returned (.bool b) ∧ Below w.heap.size w w' := lawCallsP hm prim0_ok he hl hs hv b hr
theorem st0_3 (u v w : AV) : st0 [.tree u, .tree v, .tree w] = dead := by
  funext j
  match j with
  | 0 | 1 | 2 | _ + 3 => simp [st0, dead]
theorem st0_4 (u v w x : AV) : st0 [.tree u, .tree v, .tree w, .tree x] = dead := by
  funext j
  match j with
  | 0 | 1 | 2 | 3 | _ + 4 => simp [st0, dead]
end Go.Ab
