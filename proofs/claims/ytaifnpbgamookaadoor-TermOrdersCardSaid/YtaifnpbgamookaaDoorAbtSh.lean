/- strings.Join at this program, by the library's contract. No conditions. -/
import Derived.Shelf.Strings.OnBuilder
import Derived.Test.YtaifnpbgamookaaDoorAbtPr
import Derived.Test.YtaifnpbgamookaaDoorProg
import Derived.KernelRfl
namespace Go.Proofs.AbSh
open Go.Shelf
def ren : Go.Shelf.Ren := ⟨fun | 156 => 28 | 165 => 54 | 166 => 55 | 169 => 30 | 240 => 56 | 241 => 89 | 276 => 90 | 277 => 111| n => n, fun | 31 => 55 | 9 => 9 | 3 => 3 | 4 => 4 | 0 => 0 | 20 => 20 | 72 => 60 | 76 => 93 | 70 => 57 | 37 => 58 | 75 => 62 | 127 => 95 | 164 => 122 | 5 => 5 | 80 => 65 | n => n, fun n => n⟩
theorem lays : Lays.n156 Tryd.prog ren := {
  mixed := by kernel_rfl
  f156 := Tryd.func28.trans (congrArg some (by kernel_rfl))
  f165 := Tryd.func54.trans (congrArg some (by kernel_rfl))
  f166 := Tryd.func55.trans (congrArg some (by kernel_rfl))
  f169 := Tryd.func30.trans (congrArg some (by kernel_rfl))
  f240 := Tryd.func56.trans (congrArg some (by kernel_rfl))
  f241 := Tryd.func89.trans (congrArg some (by kernel_rfl))
  f276 := Tryd.func90.trans (congrArg some (by kernel_rfl))
  f277 := Tryd.func111.trans (congrArg some (by kernel_rfl))
  t0 := Tryd.underlying0
  a0 := Tryd.isAgg0
  z0 := Tryd.sizeOf0
  v0 := Tryd.zeroValue0
  t3 := Tryd.underlying3
  a3 := Tryd.isAgg3
  z3 := Tryd.sizeOf3
  v3 := Tryd.zeroValue3
  t4 := Tryd.underlying4
  a4 := Tryd.isAgg4
  z4 := Tryd.sizeOf4
  v4 := Tryd.zeroValue4
  t9 := Tryd.underlying9
  a9 := Tryd.isAgg9
  z9 := Tryd.sizeOf9
  v9 := Tryd.zeroValue9
  t20 := Tryd.underlying20
  a20 := Tryd.isAgg20
  z20 := Tryd.sizeOf20
  v20 := Tryd.zeroValue20
  t31 := Tryd.underlying55
  a31 := Tryd.isAgg55
  z31 := Tryd.sizeOf55
  v31 := Tryd.zeroValue55
  t37 := Tryd.underlying58
  a37 := Tryd.isAgg58
  z37 := Tryd.sizeOf58
  v37 := Tryd.zeroValue58
  t70 := Tryd.underlying57
  a70 := Tryd.isAgg57
  z70 := Tryd.sizeOf57
  v70 := Tryd.zeroValue57
  t72 := Tryd.underlying60
  a72 := Tryd.isAgg60
  z72 := Tryd.sizeOf60
  v72 := Tryd.zeroValue60
  t75 := Tryd.underlying62
  a75 := Tryd.isAgg62
  z75 := Tryd.sizeOf62
  v75 := Tryd.zeroValue62
  t76 := Tryd.underlying93
  a76 := Tryd.isAgg93
  z76 := Tryd.sizeOf93
  v76 := Tryd.zeroValue93
  t127 := Tryd.underlying95
  a127 := Tryd.isAgg95
  z127 := Tryd.sizeOf95
  v127 := Tryd.zeroValue95
  t164 := Tryd.underlying122
  a164 := Tryd.isAgg122
  z164 := Tryd.sizeOf122
  v164 := Tryd.zeroValue122 }
theorem ext : Builder.Extra Tryd.prog ren := { sizeBuilder := by kernel_rfl, liesBuilder := by kernel_rfl, t5 := Tryd.underlying5, a5 := Tryd.isAgg5, z5 := Tryd.sizeOf5, v5 := Tryd.zeroValue5, infoByte := by kernel_rfl, cellsByte := by kernel_rfl, sizeByte := by kernel_rfl, neB5 := by decide }
end Go.Proofs.AbSh
namespace Go.Ab
open Go.Proofs
theorem joinC : JoinC Tryd.prog 28 where
  here := ⟨_, _, Tryd.func28, by unfold Tryd.f28; decide, by unfold Tryd.f28; rfl⟩
  empty := fun a c sep w => Any.strings_Join_none AbSh.lays AbSh.ext a c sep w
  full := fun bk o c xs sep w h1 h2 h3 h4 h5 => Any.strings_Join AbSh.lays AbSh.ext bk o c xs sep w h1 h2 h3 h4 h5
theorem prim0_ok : FnOk Tryd.prog prim0 := fun f xs r os h => by
  unfold prim0 at h
  split at h
  · rename_i hf
    rw [beq_iff_eq] at hf
    subst hf
    exact join_ok joinC h
  · cases h
end Go.Ab
