/- From the abstract run to what a statement asks: a function that gives true, and leaves the heap below as it was. Conditions: none beyond the abstract run's answer. -/
import Derived.Test.YtaifnpbgamookaaDoorAbN
import Derived.Below
namespace Go.Ab
open Go.RowKit
section
variable {P : Program} {cfg : Cfg}

/-- A row of numbers in memory, as a statement's reading gives it. -/
def IsRow (k : IntKind) (w : World) (a : Option Addr) (len cap : Nat) (zs : List Int) : Prop :=
  (a = none ∧ len = 0 ∧ cap = 0 ∧ zs = []) ∨
  ∃ x, a = some x ∧ len ≤ cap ∧ cap ≤ maxLen ∧ zs.length = cap ∧ (∀ i, i < zs.length → w.cell? (x.add i) = some (.int k (zs.getD i 0))) ∧ ∀ n ∈ zs, (Lit.int k n).wf = true
/-- All blocks that are there. -/
def old (w : World) : Nat → Nat → Prop := fun b _ => b < w.heap.size
theorem VC_ints {k : IntKind} {w : World} {b : Nat} : ∀ (zs : List Int) (o : Nat), (∀ i, i < zs.length → w.cell? ⟨b, o + i, none⟩ = some (.int k (zs.getD i 0))) → VC (old w) w (zs.map (AV.int k)) b o
  | [], _, _ => by simp only [List.map_nil, VC]
  | z :: zs, o, h => by
    simp only [List.map_cons, VC]
    have h0 := h 0 (by simp)
    refine ⟨?_, ⟨.int k z, by simpa using h0, rfl, by simp [V0]⟩, VC_ints zs (o + 1) fun i hi => ?_⟩
    · unfold old
      rw [Nat.add_zero, World.cell?] at h0
      have : (w.heap[b]?).isSome := by
        cases hb : w.heap[b]? with
        | none => simp only [hb] at h0; cases h0
        | some _ => rfl
      simpa using this
    · have := h (i + 1) (by simpa using hi)
      rw [show o + 1 + i = o + (i + 1) by omega]
      simpa using this
theorem V0_row {k : IntKind} {w : World} {a : Option Addr} {len cap : Nat} {zs : List Int} (h : IsRow k w a len cap zs) : V0 (old w) w (.sl ((zs.take len).map (AV.int k)) len .loose) (.slice a len cap) := by
  simp only [V0]
  rcases h with ⟨rfl, rfl, rfl, rfl⟩ | ⟨x, rfl, hl, _, hz, hc, _⟩
  · exact ⟨none, 0, rfl, by omega, by simp, by simp [Grip.isTok], .inl ⟨by simp, rfl, rfl⟩⟩
  · refine ⟨some x, cap, rfl, hl, by simp, by simp [Grip.isTok], ?_⟩
    by_cases h0 : cap = 0
    · subst h0
      have : len = 0 := by omega
      subst this
      exact .inl ⟨by simp, rfl, rfl⟩
    · obtain ⟨b, o, spot⟩ := x
      have hs : spot = none := by
        have := hc 0 (by omega)
        simpa [Addr.add] using World.cell?_spot this
      subst hs
      refine .inr ⟨b, o, rfl, VC_ints _ o fun i hi => ?_⟩
      rw [List.length_take] at hi
      have := hc i (by omega)
      have e : (⟨b, o, none⟩ : Addr).add i = ⟨b, o + i, none⟩ := by
        unfold Addr.add
        split
        · rename_i h; simp [h]
        · rfl
      rw [e] at this
      rw [show (zs.take len).getD i 0 = zs.getD i 0 by rw [List.getD_eq_getElem?_getD, List.getD_eq_getElem?_getD, List.getElem?_take, if_pos (by omega)]]
      exact this

/-- A law's run. -/
theorem lawCallsP (hm : P.follows .mixedOrders = true) (hp : FnOk P cfg.prim) {n d : Nat} {f : FuncId} {xs : List Arg} {vs : List Value} {w : World} {os : List (List AV)} {r : AV} (he : evalFn P cfg n d f xs = some (.tree r, os))
    (hl : xs.length = vs.length) (hs : st0 xs = fun _ => ⟨0, .dead⟩) (hv : ∀ (j : Nat) (v : Value), vs[j]? = some v → V0 (old w) w (env0 xs j) v ∧ isTree (env0 xs j) = true) (b : Bool) (hr : r = .bool b) :
    Calls P f vs.toArray w fun e w' => e = .returned (.bool b) ∧ Below w.heap.size w w' := by
  subst hr
  have hnr : ∀ p b o, ¬ Rg (⟨fun _ => ⟨0, 0, 0⟩, fun _ => ⟨0, .dead⟩, old w, w⟩ : G) p b o := fun p b o h => by simp [Rg] at h
  have hI : Inv (⟨fun _ => ⟨0, 0, 0⟩, fun _ => ⟨0, .dead⟩, old w, w⟩ : G) := ⟨fun p => by simp [EntOk, EntC], fun p q b o _ h => absurd h (hnr p b o), fun b o h => ⟨h, fun p => hnr p b o⟩⟩
  refine ((evalFn_ok hm hp n d f xs _ os he).2 _ vs hI ⟨hs.symm, hl, fun j v hj => V.of0 (hv j v hj).1 (hv j v hj).2⟩).mono ?_
  rintro e w' ⟨v, Γ', rfl, rfl, _, hE, hF⟩
  have hres := hF.res
  simp only [ResOk, V0] at hres
  exact ⟨by rw [hres], hE.os, hE.tape, hE.output, hE.size, fun k hk => hE.block k hk fun p o => hnr p k o⟩
end
end Go.Ab
