/- The walk of NumDigits: it gives true, and leaves memory below as it was. No conditions. -/
import Derived.Test.YtdibanolokkniaaDoorAbnLawN
import Derived.Test.YtdibanolokkniaaDoorAbnX9
namespace Go.Ab
open Go.Proofs Go.RowKit
theorem intsOf {w : World} {a : Option Addr} {len cap : Nat} {zs : List Int} (h : IsRow .i64 w a len cap zs) : V0 (old w) w (encI (zs.take len)) (.slice a len cap) := by
  have hl : (zs.take len).length = len := by
    rw [List.length_take]
    rcases h with ⟨_, rfl, _, _⟩ | ⟨_, _, h1, _, h2, _, _⟩ <;> omega
  have e : encI (zs.take len) = .sl ((zs.take len).map (AV.int .i64)) len .loose := by rw [encI, hl]
  rw [e]
  exact V0_row h
theorem walkNDigits (a : Option Addr) (len cap : Nat) (zs : List Int) (b : Bool) (w : World) (h : IsRow .i64 w a len cap zs) :
    Calls Tryd.prog 10 #[.slice a len cap, .bool b] w fun e w' => e = .returned (.bool true) ∧ Below w.heap.size w w' := by
  refine lawCalls mixed (vs := [.slice a len cap, .bool b]) (digits_eqN (zs.take len) b) rfl (st0_2 _ _) (fun j v hj => ?_) true rfl
  match j, hj with
  | 0, hj => cases hj; exact ⟨intsOf h, rfl⟩
  | 1, hj => cases hj; exact ⟨by simp [env0, V0], rfl⟩
end Go.Ab
