/-
  NARROWER THAN 'FOR EVERY INPUT', by the rows' own cells (each row's printed sentence says how): ExtAll: loops · ExtBack: loops.
  DERIVED. THE GIVEN ROWS OF THIS SEAT. 5 by the template 'for every input the law returns true; each argument reads behind the call as it read before'; 0 by the template 'total and deterministic' (their statements: YticeekdofpdcoaaTotals.lean).
  GIVEN WITH THE SEED: the statements are not yours to turn. If you find one false, say at which input.
  Laid BY PROGRAM, IN A SANDBOX (cutbox-rows.mjs): the forced cells as the released guide's own fill.sh prints them over the translation 8f68e31ed0dea140… (all of the seat's roots in one cut). By AI agents, Wed Nov 11 2026. No macro, syntax, notation, axiom, sorry.
-/
import Derived.Test.YticeekdofpdcoaaChecked
import GoSem.Claim
import GoSem.ClaimJoined
import GoSem.ClaimMapViews
import Derived.JoinedTies
import Derived.KernelRfl
namespace Go.Proofs.Yticeekdofpdcoaa
/- THE CELL 'sum', in the pinned program and in every row, IS THE sha256 OF THE DUMP (.gsa) THAT YticeekdofpdcoaaProg.lean LOADS. Nothing in Lean hashes anything: it is a label: what it is worth is what the hold of that sum in a sandbox is worth. -/
noncomputable def Try.pinned : Pinned := { name := "yticeekdofpdcoaa", sum := "8f68e31ed0dea140a40a8f349a8d80c88bb4ac11cb9d1458953fff9da38b211d", checked := Try.checked }
namespace Rows
def none {H : Type} : Left H := { results := [], args := [] }

/-- 'relictlaw04.ExtAll': WHATEVER THE INPUT: true; the input reads as it did. -/
def extAllSpec : ChangeSpec := { name := "extAll", fn := fun _ => fun
  | [d1, d2, d3] => { results := [.lit (.bool true)], args := [d1, d2, d3] }
  | _ => none }
def extAllRow : OpenClaim := { program := "yticeekdofpdcoaa", sum := "8f68e31ed0dea140a40a8f349a8d80c88bb4ac11cb9d1458953fff9da38b211d", func := "relict/relictlaw04.ExtAll", spec := "extAll", unfollowed := true, recurses := true, loops := true, apart := false }
def ExtAllSaid : Prop := extAllRow.holds Try.pinned (OpenSpec.ofChange extAllSpec)

/-- ITS FALSE NEIGHBOUR: 'it returns false'. Refute it at one input. -/
def extAllWrong : ChangeSpec := { name := "extAll", fn := fun _ => fun
  | [d1, d2, d3] => { results := [.lit (.bool false)], args := [d1, d2, d3] }
  | _ => none }
def ExtAllWrongFalsely : Prop := extAllRow.holds Try.pinned (OpenSpec.ofChange extAllWrong)

/-- 'relictlaw04.ExtBack': WHATEVER THE INPUT: true; the input reads as it did. -/
def extBackSpec : ChangeSpec := { name := "extBack", fn := fun _ => fun
  | [d1, d2, d3] => { results := [.lit (.bool true)], args := [d1, d2, d3] }
  | _ => none }
def extBackRow : OpenClaim := { program := "yticeekdofpdcoaa", sum := "8f68e31ed0dea140a40a8f349a8d80c88bb4ac11cb9d1458953fff9da38b211d", func := "relict/relictlaw04.ExtBack", spec := "extBack", unfollowed := true, recurses := true, loops := true, apart := false }
def ExtBackSaid : Prop := extBackRow.holds Try.pinned (OpenSpec.ofChange extBackSpec)

/-- ITS FALSE NEIGHBOUR: 'it returns false'. Refute it at one input. -/
def extBackWrong : ChangeSpec := { name := "extBack", fn := fun _ => fun
  | [d1, d2, d3] => { results := [.lit (.bool false)], args := [d1, d2, d3] }
  | _ => none }
def ExtBackWrongFalsely : Prop := extBackRow.holds Try.pinned (OpenSpec.ofChange extBackWrong)

/-- 'relictlaw04.ExtOne': WHATEVER THE INPUT: true; the input reads as it did. -/
def extOneSpec : ChangeSpec := { name := "extOne", fn := fun _ => fun
  | [d] => { results := [.lit (.bool true)], args := [d] }
  | _ => none }
def extOneRow : OpenClaim := { program := "yticeekdofpdcoaa", sum := "8f68e31ed0dea140a40a8f349a8d80c88bb4ac11cb9d1458953fff9da38b211d", func := "relict/relictlaw04.ExtOne", spec := "extOne", unfollowed := true, recurses := true, apart := false }
def ExtOneSaid : Prop := extOneRow.holds Try.pinned (OpenSpec.ofChange extOneSpec)

/-- ITS FALSE NEIGHBOUR: 'it returns false'. Refute it at one input. -/
def extOneWrong : ChangeSpec := { name := "extOne", fn := fun _ => fun
  | [d] => { results := [.lit (.bool false)], args := [d] }
  | _ => none }
def ExtOneWrongFalsely : Prop := extOneRow.holds Try.pinned (OpenSpec.ofChange extOneWrong)

/-- 'relictlaw04.ExtLong': WHATEVER THE INPUT: true; the input reads as it did. -/
def extLongSpec : ChangeSpec := { name := "extLong", fn := fun _ => fun
  | [d1, d2] => { results := [.lit (.bool true)], args := [d1, d2] }
  | _ => none }
def extLongRow : OpenClaim := { program := "yticeekdofpdcoaa", sum := "8f68e31ed0dea140a40a8f349a8d80c88bb4ac11cb9d1458953fff9da38b211d", func := "relict/relictlaw04.ExtLong", spec := "extLong", unfollowed := true, recurses := true, apart := false }
def ExtLongSaid : Prop := extLongRow.holds Try.pinned (OpenSpec.ofChange extLongSpec)

/-- ITS FALSE NEIGHBOUR: 'it returns false'. Refute it at one input. -/
def extLongWrong : ChangeSpec := { name := "extLong", fn := fun _ => fun
  | [d1, d2] => { results := [.lit (.bool false)], args := [d1, d2] }
  | _ => none }
def ExtLongWrongFalsely : Prop := extLongRow.holds Try.pinned (OpenSpec.ofChange extLongWrong)

/-- 'relictlaw04.ExtNumbers': WHATEVER THE INPUT: true; the input reads as it did. -/
def extNumbersSpec : ChangeSpec := { name := "extNumbers", fn := fun _ => fun
  | [d1, d2, d3] => { results := [.lit (.bool true)], args := [d1, d2, d3] }
  | _ => none }
def extNumbersRow : OpenClaim := { program := "yticeekdofpdcoaa", sum := "8f68e31ed0dea140a40a8f349a8d80c88bb4ac11cb9d1458953fff9da38b211d", func := "relict/relictlaw04.ExtNumbers", spec := "extNumbers", unfollowed := true, recurses := true, apart := false }
def ExtNumbersSaid : Prop := extNumbersRow.holds Try.pinned (OpenSpec.ofChange extNumbersSpec)

/-- ITS FALSE NEIGHBOUR: 'it returns false'. Refute it at one input. -/
def extNumbersWrong : ChangeSpec := { name := "extNumbers", fn := fun _ => fun
  | [d1, d2, d3] => { results := [.lit (.bool false)], args := [d1, d2, d3] }
  | _ => none }
def ExtNumbersWrongFalsely : Prop := extNumbersRow.holds Try.pinned (OpenSpec.ofChange extNumbersWrong)

/- THE SECOND FORM. 'bulk': how many values and letters a reading holds, each counted each time it is reached (what is shared counts as often as it is met; a slice's spare places count too). A statement '..UptoSaid' is the law's where the arguments, and the package variables that the reading takes, are together of bulk at most 1048576: NARROWER than '..Said'. Prove '..Said' where nothing that the law and all that it calls make is longer than what came in: it says more and counts as full. Else prove '..UptoSaid'. A law counts once. -/
mutual
def uptoBulk {H : Type} : DataW H → Nat
  | .lit (.string bytes) => bytes.length + 1
  | .lit _ => 1
  | .nil => 1
  | .ptr d => uptoBulk d + 1
  | .slice elems spare => uptoBulkAll elems + uptoBulkAll spare + 1
  | .agg parts => uptoBulkAll parts + 1
  | .iface _ d => uptoBulk d + 1
  | .map entries => uptoBulkEntries entries + 1
  | .held _ => 1
def uptoBulkAll {H : Type} : List (DataW H) → Nat
  | [] => 0
  | d :: r => uptoBulk d + uptoBulkAll r
def uptoBulkEntries {H : Type} : List (Lit × DataW H) → Nat
  | [] => 0
  | x :: r => uptoBulkEntry x + uptoBulkEntries r
def uptoBulkEntry {H : Type} : Lit × DataW H → Nat
  | (.string bytes, d) => bytes.length + uptoBulk d + 1
  | (_, d) => uptoBulk d + 1
 end
def uptoSmall : (H : Type) → List (DataW H) → Bool := fun _ ds => decide (uptoBulkAll ds ≤ 1048576)
def OpenSpec.upto (s : _root_.Go.ChangeSpec) : _root_.Go.OpenSpec := { _root_.Go.OpenSpec.ofChange s with cond := some uptoSmall }

/-- 'relictlaw04.ExtAll', WHERE WHAT IT READS IS OF BULK AT MOST 1048576: true; the input reads as it did. -/
def extAllUptoRow : OpenClaim := { program := "yticeekdofpdcoaa", sum := "8f68e31ed0dea140a40a8f349a8d80c88bb4ac11cb9d1458953fff9da38b211d", func := "relict/relictlaw04.ExtAll", spec := "extAll", unfollowed := true, recurses := true, loops := true, apart := false, narrowed := true }
def ExtAllUptoSaid : Prop := extAllUptoRow.holds Try.pinned (OpenSpec.upto extAllSpec)

/-- 'relictlaw04.ExtBack', WHERE WHAT IT READS IS OF BULK AT MOST 1048576: true; the input reads as it did. -/
def extBackUptoRow : OpenClaim := { program := "yticeekdofpdcoaa", sum := "8f68e31ed0dea140a40a8f349a8d80c88bb4ac11cb9d1458953fff9da38b211d", func := "relict/relictlaw04.ExtBack", spec := "extBack", unfollowed := true, recurses := true, loops := true, apart := false, narrowed := true }
def ExtBackUptoSaid : Prop := extBackUptoRow.holds Try.pinned (OpenSpec.upto extBackSpec)

/-- 'relictlaw04.ExtOne', WHERE WHAT IT READS IS OF BULK AT MOST 1048576: true; the input reads as it did. -/
def extOneUptoRow : OpenClaim := { program := "yticeekdofpdcoaa", sum := "8f68e31ed0dea140a40a8f349a8d80c88bb4ac11cb9d1458953fff9da38b211d", func := "relict/relictlaw04.ExtOne", spec := "extOne", unfollowed := true, recurses := true, apart := false, narrowed := true }
def ExtOneUptoSaid : Prop := extOneUptoRow.holds Try.pinned (OpenSpec.upto extOneSpec)

/-- 'relictlaw04.ExtLong', WHERE WHAT IT READS IS OF BULK AT MOST 1048576: true; the input reads as it did. -/
def extLongUptoRow : OpenClaim := { program := "yticeekdofpdcoaa", sum := "8f68e31ed0dea140a40a8f349a8d80c88bb4ac11cb9d1458953fff9da38b211d", func := "relict/relictlaw04.ExtLong", spec := "extLong", unfollowed := true, recurses := true, apart := false, narrowed := true }
def ExtLongUptoSaid : Prop := extLongUptoRow.holds Try.pinned (OpenSpec.upto extLongSpec)

/-- 'relictlaw04.ExtNumbers', WHERE WHAT IT READS IS OF BULK AT MOST 1048576: true; the input reads as it did. -/
def extNumbersUptoRow : OpenClaim := { program := "yticeekdofpdcoaa", sum := "8f68e31ed0dea140a40a8f349a8d80c88bb4ac11cb9d1458953fff9da38b211d", func := "relict/relictlaw04.ExtNumbers", spec := "extNumbers", unfollowed := true, recurses := true, apart := false, narrowed := true }
def ExtNumbersUptoSaid : Prop := extNumbersUptoRow.holds Try.pinned (OpenSpec.upto extNumbersSpec)

end Rows
end Go.Proofs.Yticeekdofpdcoaa
