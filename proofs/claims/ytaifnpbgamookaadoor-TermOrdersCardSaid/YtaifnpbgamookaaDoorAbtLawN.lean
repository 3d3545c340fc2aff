/- Numbers out of a statement's reading. No conditions. -/
import Derived.Test.YtaifnpbgamookaaDoorAbtLawB
import Derived.Test.YtaifnpbgamookaaDoorAbtA1
import Derived.ProofKit
import Derived.OpenShut
namespace Go.Ab
open Go.Proofs Go.RowKit Go.ChangeShapes Go.WideShapes Go.ChangeAt
/-- A number in memory, as a statement's reading gives it. -/
def IsNum (w : World) (v : Value) : Prop := ∃ b a len cap zs, v = .agg #[.bool b, .slice a len cap] ∧ IsRow .u32 w a len cap zs
theorem numOf {w : World} {v : Value} (h : IsNum w v) : ∃ (b : Bool) (l : List Nat), Limbs l ∧ V0 (old w) w (encA b .l l) v := by
  obtain ⟨b, a, len, cap, zs, rfl, hr⟩ := h
  obtain ⟨l, hl, hv⟩ := limbsOf hr
  refine ⟨b, l, hl, ?_⟩
  simp only [V0]
  refine ⟨[.bool b, .slice a len cap], rfl, ?_⟩
  simp only [VL]
  exact ⟨_, _, rfl, rfl, by simp only [V0], _, _, rfl, rfl, hv, rfl⟩
set_option maxRecDepth 100000 in
theorem und24 : ∃ f0 f1 : Field, Tryd.prog.underlying 25 = some (.struct #[f0, f1]) ∧ f0.type = 4 ∧ f1.type = 23 ∧ f0.offset = 0 ∧ f1.offset = 1 := by
  exact ⟨_, _, Tryd.underlying25, rfl, rfl, rfl, rfl⟩
theorem cells4 : Tryd.prog.cellsOf 4 = 1 := by kernel_rfl
theorem cells24 : Tryd.prog.cellsOf 25 = 2 := by kernel_rfl
theorem cells22 : Tryd.prog.cellsOf 23 = 1 := by kernel_rfl
set_option maxRecDepth 100000 in
theorem openNum {H : Type} {enc : TypeId × Value → H} {W : World} {r : Reach} {base b0 : Nat} {held : Bool} {v : Value} {d : DataW H} {ps : List MemPlace} (hval : Value.okWide Tryd.prog W r b0 25 v) (h : DataW.Trod enc Tryd.prog W base (fun _ => true) held 25 v d ps) : IsNum W v := by
  obtain ⟨f0, f1, hu, t0, t1, o0, o1⟩ := und24
  obtain ⟨cs, rfl, hsz⟩ := okWide_struct hu hval
  obtain ⟨fuel, hf⟩ := h
  obtain ⟨y0, y1, n, _, hlen, h0, h1⟩ := trod_struct2 hu hf
  rw [t0, o0, cells4] at h0
  rw [t1, o1, cells22] at h1
  obtain ⟨b, e0, _⟩ := DataW.trod_bool Tryd.underlying4 h0
  have key : ∃ c0 c1, cs.toList = [c0, c1] := by
    have h2 : cs.toList.length = 2 := by
      rw [cells24] at hlen
      simpa only [Value.cells] using hlen
    match hcs : cs.toList, h2 with
    | [c0, c1], _ => exact ⟨c0, c1, rfl⟩
  obtain ⟨c0, c1, hcs⟩ := key
  simp only [Value.cells, hcs] at e0 h1
  simp at e0 h1
  subst e0
  have hcs' : cs = #[.bool b, c1] := by apply Array.ext'; simpa using hcs
  rcases open_ints Tryd.underlying23 Tryd.underlying50 (by kernel_rfl) h1 with ⟨hc, _⟩ | ⟨x, l, c, zs, hc, _, hl, hm, hz, _, hcell, hwz⟩
  · simp at hc
    subst hc
    exact ⟨b, none, 0, 0, [], by rw [hcs'], .inl ⟨rfl, rfl, rfl, rfl⟩⟩
  · simp at hc
    subst hc
    exact ⟨b, some x, l, c, zs, by rw [hcs'], .inr ⟨_, rfl, hl, hm, by simpa using hz, hcell, hwz⟩⟩
theorem isTree_N (b : Bool) (g : Gk) (l : List Nat) : isTree (encA b g l) = true := rfl
end Go.Ab
