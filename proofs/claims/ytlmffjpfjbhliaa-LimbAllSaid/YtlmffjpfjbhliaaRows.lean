/-
  No cell of these rows narrows 'for every input' (looked for: loops, veiled, ifaces, maps, wideKeys, modest, calm, conditions, laid).
  DERIVED. THE GIVEN ROWS OF THIS SEAT. 6 by the template 'for every input the law returns true; each argument reads behind the call as it read before'; 0 by the template 'total and deterministic' (their statements: YtlmffjpfjbhliaaTotals.lean).
  GIVEN WITH THE SEED: the statements are not yours to turn. If you find one false, say at which input.
  Laid BY PROGRAM, IN A SANDBOX (cutbox-rows.mjs): the forced cells as the released guide's own fill.sh prints them over the translation 335fba275f7338af… (all of the seat's roots in one cut). By AI agents, Wed Nov 11 2026. No macro, syntax, notation, axiom, sorry.
-/
import Derived.Test.YtlmffjpfjbhliaaChecked
import GoSem.Claim
import GoSem.ClaimJoined
import GoSem.ClaimMapViews
import Derived.JoinedTies
import Derived.KernelRfl
namespace Go.Proofs.Ytlmffjpfjbhliaa
/- THE CELL 'sum', in the pinned program and in every row, IS THE sha256 OF THE DUMP (.gsa) THAT YtlmffjpfjbhliaaProg.lean LOADS. Nothing in Lean hashes anything: it is a label: what it is worth is what the hold of that sum in a sandbox is worth. -/
noncomputable def Try.pinned : Pinned := { name := "ytlmffjpfjbhliaa", sum := "335fba275f7338af5cbc953249011bdeec7373145f0f8fb84e6b2272139476b8", checked := Try.checked }
namespace Rows
def none {H : Type} : Left H := { results := [], args := [] }

/-- 'relictlaw01.LimbOrders': WHATEVER THE INPUT: true; the input reads as it did. -/
def limbOrdersSpec : ChangeSpec := { name := "limbOrders", fn := fun _ => fun
  | [d1, d2, d3, d4] => { results := [.lit (.bool true)], args := [d1, d2, d3, d4] }
  | _ => none }
def limbOrdersRow : OpenClaim := { program := "ytlmffjpfjbhliaa", sum := "335fba275f7338af5cbc953249011bdeec7373145f0f8fb84e6b2272139476b8", func := "relict/relictlaw01.LimbOrders", spec := "limbOrders", apart := false }
def LimbOrdersSaid : Prop := limbOrdersRow.holds Try.pinned (OpenSpec.ofChange limbOrdersSpec)

/-- ITS FALSE NEIGHBOUR: 'it returns false'. Refute it at one input. -/
def limbOrdersWrong : ChangeSpec := { name := "limbOrders", fn := fun _ => fun
  | [d1, d2, d3, d4] => { results := [.lit (.bool false)], args := [d1, d2, d3, d4] }
  | _ => none }
def LimbOrdersWrongFalsely : Prop := limbOrdersRow.holds Try.pinned (OpenSpec.ofChange limbOrdersWrong)

/-- 'relictlaw01.LimbSums': WHATEVER THE INPUT: true; the input reads as it did. -/
def limbSumsSpec : ChangeSpec := { name := "limbSums", fn := fun _ => fun
  | [d1, d2, d3] => { results := [.lit (.bool true)], args := [d1, d2, d3] }
  | _ => none }
def limbSumsRow : OpenClaim := { program := "ytlmffjpfjbhliaa", sum := "335fba275f7338af5cbc953249011bdeec7373145f0f8fb84e6b2272139476b8", func := "relict/relictlaw01.LimbSums", spec := "limbSums", apart := false }
def LimbSumsSaid : Prop := limbSumsRow.holds Try.pinned (OpenSpec.ofChange limbSumsSpec)

/-- ITS FALSE NEIGHBOUR: 'it returns false'. Refute it at one input. -/
def limbSumsWrong : ChangeSpec := { name := "limbSums", fn := fun _ => fun
  | [d1, d2, d3] => { results := [.lit (.bool false)], args := [d1, d2, d3] }
  | _ => none }
def LimbSumsWrongFalsely : Prop := limbSumsRow.holds Try.pinned (OpenSpec.ofChange limbSumsWrong)

/-- 'relictlaw01.LimbShifts': WHATEVER THE INPUT: true; the input reads as it did. -/
def limbShiftsSpec : ChangeSpec := { name := "limbShifts", fn := fun _ => fun
  | [d1, d2] => { results := [.lit (.bool true)], args := [d1, d2] }
  | _ => none }
def limbShiftsRow : OpenClaim := { program := "ytlmffjpfjbhliaa", sum := "335fba275f7338af5cbc953249011bdeec7373145f0f8fb84e6b2272139476b8", func := "relict/relictlaw01.LimbShifts", spec := "limbShifts", apart := false }
def LimbShiftsSaid : Prop := limbShiftsRow.holds Try.pinned (OpenSpec.ofChange limbShiftsSpec)

/-- ITS FALSE NEIGHBOUR: 'it returns false'. Refute it at one input. -/
def limbShiftsWrong : ChangeSpec := { name := "limbShifts", fn := fun _ => fun
  | [d1, d2] => { results := [.lit (.bool false)], args := [d1, d2] }
  | _ => none }
def LimbShiftsWrongFalsely : Prop := limbShiftsRow.holds Try.pinned (OpenSpec.ofChange limbShiftsWrong)

/-- 'relictlaw01.LimbDivides': WHATEVER THE INPUT: true; the input reads as it did. -/
def limbDividesSpec : ChangeSpec := { name := "limbDivides", fn := fun _ => fun
  | [d1, d2] => { results := [.lit (.bool true)], args := [d1, d2] }
  | _ => none }
def limbDividesRow : OpenClaim := { program := "ytlmffjpfjbhliaa", sum := "335fba275f7338af5cbc953249011bdeec7373145f0f8fb84e6b2272139476b8", func := "relict/relictlaw01.LimbDivides", spec := "limbDivides", apart := false }
def LimbDividesSaid : Prop := limbDividesRow.holds Try.pinned (OpenSpec.ofChange limbDividesSpec)

/-- ITS FALSE NEIGHBOUR: 'it returns false'. Refute it at one input. -/
def limbDividesWrong : ChangeSpec := { name := "limbDivides", fn := fun _ => fun
  | [d1, d2] => { results := [.lit (.bool false)], args := [d1, d2] }
  | _ => none }
def LimbDividesWrongFalsely : Prop := limbDividesRow.holds Try.pinned (OpenSpec.ofChange limbDividesWrong)

/-- 'relictlaw01.LimbAll': WHATEVER THE INPUT: true; the input reads as it did. -/
def limbAllSpec : ChangeSpec := { name := "limbAll", fn := fun _ => fun
  | [d1, d2, d3] => { results := [.lit (.bool true)], args := [d1, d2, d3] }
  | _ => none }
def limbAllRow : OpenClaim := { program := "ytlmffjpfjbhliaa", sum := "335fba275f7338af5cbc953249011bdeec7373145f0f8fb84e6b2272139476b8", func := "relict/relictlaw01.LimbAll", spec := "limbAll", unfollowed := true, recurses := true, apart := false }
def LimbAllSaid : Prop := limbAllRow.holds Try.pinned (OpenSpec.ofChange limbAllSpec)

/-- ITS FALSE NEIGHBOUR: 'it returns false'. Refute it at one input. -/
def limbAllWrong : ChangeSpec := { name := "limbAll", fn := fun _ => fun
  | [d1, d2, d3] => { results := [.lit (.bool false)], args := [d1, d2, d3] }
  | _ => none }
def LimbAllWrongFalsely : Prop := limbAllRow.holds Try.pinned (OpenSpec.ofChange limbAllWrong)

/-- 'relictlaw01.LimbPowers': WHATEVER THE INPUT: true; the input reads as it did. -/
def limbPowersSpec : ChangeSpec := { name := "limbPowers", fn := fun _ => fun
  | [d1, d2] => { results := [.lit (.bool true)], args := [d1, d2] }
  | _ => none }
def limbPowersRow : OpenClaim := { program := "ytlmffjpfjbhliaa", sum := "335fba275f7338af5cbc953249011bdeec7373145f0f8fb84e6b2272139476b8", func := "relict/relictlaw01.LimbPowers", spec := "limbPowers", apart := false }
def LimbPowersSaid : Prop := limbPowersRow.holds Try.pinned (OpenSpec.ofChange limbPowersSpec)

/-- ITS FALSE NEIGHBOUR: 'it returns false'. Refute it at one input. -/
def limbPowersWrong : ChangeSpec := { name := "limbPowers", fn := fun _ => fun
  | [d1, d2] => { results := [.lit (.bool false)], args := [d1, d2] }
  | _ => none }
def LimbPowersWrongFalsely : Prop := limbPowersRow.holds Try.pinned (OpenSpec.ofChange limbPowersWrong)

/- THE SECOND FORM. 'bulk': how many values and letters a reading holds, each counted each time it is reached (what is shared counts as often as it is met; a slice's spare places count too). A statement '..UptoSaid' is the law's where the arguments, and the package variables that the reading takes, are together of bulk at most 1048576: NARROWER than '..Said'. Prove '..Said' where nothing that the law and all that it calls make is longer than what came in: it says more and counts as full. Else prove '..UptoSaid'. A law counts once. -/
mutual
def uptoBulk {H : Type} : DataW H → Nat
  | .lit (.string bytes) => bytes.length + 1
  | .lit _ => 1
  | .nil => 1
  | .ptr d => uptoBulk d + 1
  | .slice elems spare => uptoBulkAll elems + uptoBulkAll spare + 1
  | .agg parts => uptoBulkAll parts + 1
  | .iface _ d => uptoBulk d + 1
  | .map entries => uptoBulkEntries entries + 1
  | .held _ => 1
def uptoBulkAll {H : Type} : List (DataW H) → Nat
  | [] => 0
  | d :: r => uptoBulk d + uptoBulkAll r
def uptoBulkEntries {H : Type} : List (Lit × DataW H) → Nat
  | [] => 0
  | x :: r => uptoBulkEntry x + uptoBulkEntries r
def uptoBulkEntry {H : Type} : Lit × DataW H → Nat
  | (.string bytes, d) => bytes.length + uptoBulk d + 1
  | (_, d) => uptoBulk d + 1
 end
def uptoSmall : (H : Type) → List (DataW H) → Bool := fun _ ds => decide (uptoBulkAll ds ≤ 1048576)
def OpenSpec.upto (s : _root_.Go.ChangeSpec) : _root_.Go.OpenSpec := { _root_.Go.OpenSpec.ofChange s with cond := some uptoSmall }

/-- 'relictlaw01.LimbOrders', WHERE WHAT IT READS IS OF BULK AT MOST 1048576: true; the input reads as it did. -/
def limbOrdersUptoRow : OpenClaim := { program := "ytlmffjpfjbhliaa", sum := "335fba275f7338af5cbc953249011bdeec7373145f0f8fb84e6b2272139476b8", func := "relict/relictlaw01.LimbOrders", spec := "limbOrders", apart := false, narrowed := true }
def LimbOrdersUptoSaid : Prop := limbOrdersUptoRow.holds Try.pinned (OpenSpec.upto limbOrdersSpec)

/-- 'relictlaw01.LimbSums', WHERE WHAT IT READS IS OF BULK AT MOST 1048576: true; the input reads as it did. -/
def limbSumsUptoRow : OpenClaim := { program := "ytlmffjpfjbhliaa", sum := "335fba275f7338af5cbc953249011bdeec7373145f0f8fb84e6b2272139476b8", func := "relict/relictlaw01.LimbSums", spec := "limbSums", apart := false, narrowed := true }
def LimbSumsUptoSaid : Prop := limbSumsUptoRow.holds Try.pinned (OpenSpec.upto limbSumsSpec)

/-- 'relictlaw01.LimbShifts', WHERE WHAT IT READS IS OF BULK AT MOST 1048576: true; the input reads as it did. -/
def limbShiftsUptoRow : OpenClaim := { program := "ytlmffjpfjbhliaa", sum := "335fba275f7338af5cbc953249011bdeec7373145f0f8fb84e6b2272139476b8", func := "relict/relictlaw01.LimbShifts", spec := "limbShifts", apart := false, narrowed := true }
def LimbShiftsUptoSaid : Prop := limbShiftsUptoRow.holds Try.pinned (OpenSpec.upto limbShiftsSpec)

/-- 'relictlaw01.LimbDivides', WHERE WHAT IT READS IS OF BULK AT MOST 1048576: true; the input reads as it did. -/
def limbDividesUptoRow : OpenClaim := { program := "ytlmffjpfjbhliaa", sum := "335fba275f7338af5cbc953249011bdeec7373145f0f8fb84e6b2272139476b8", func := "relict/relictlaw01.LimbDivides", spec := "limbDivides", apart := false, narrowed := true }
def LimbDividesUptoSaid : Prop := limbDividesUptoRow.holds Try.pinned (OpenSpec.upto limbDividesSpec)

/-- 'relictlaw01.LimbAll', WHERE WHAT IT READS IS OF BULK AT MOST 1048576: true; the input reads as it did. -/
def limbAllUptoRow : OpenClaim := { program := "ytlmffjpfjbhliaa", sum := "335fba275f7338af5cbc953249011bdeec7373145f0f8fb84e6b2272139476b8", func := "relict/relictlaw01.LimbAll", spec := "limbAll", unfollowed := true, recurses := true, apart := false, narrowed := true }
def LimbAllUptoSaid : Prop := limbAllUptoRow.holds Try.pinned (OpenSpec.upto limbAllSpec)

/-- 'relictlaw01.LimbPowers', WHERE WHAT IT READS IS OF BULK AT MOST 1048576: true; the input reads as it did. -/
def limbPowersUptoRow : OpenClaim := { program := "ytlmffjpfjbhliaa", sum := "335fba275f7338af5cbc953249011bdeec7373145f0f8fb84e6b2272139476b8", func := "relict/relictlaw01.LimbPowers", spec := "limbPowers", apart := false, narrowed := true }
def LimbPowersUptoSaid : Prop := limbPowersUptoRow.holds Try.pinned (OpenSpec.upto limbPowersSpec)

end Rows
end Go.Proofs.Ytlmffjpfjbhliaa
