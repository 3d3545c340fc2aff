/- strings.Join at this program, by the library's contract. No conditions. -/
import Derived.Shelf.Strings.OnBuilder
import Derived.Test.YtdibanolokkniaaDoorAbnPr
import Derived.Test.YtdibanolokkniaaDoorProg
import Derived.KernelRfl
namespace Go.Proofs.AbSh
open Go.Shelf
def ren : Go.Shelf.Ren := ⟨fun | 156 => 62 | 165 => 88 | 166 => 89 | 169 => 90 | 240 => 97 | 241 => 98 | 276 => 102 | 277 => 103| n => n, fun | 31 => 64 | 9 => 9 | 3 => 3 | 4 => 4 | 0 => 0 | 20 => 20 | 72 => 85 | 76 => 89 | 70 => 83 | 37 => 66 | 75 => 88 | 127 => 98 | 164 => 100 | 5 => 5 | 80 => 91 | n => n, fun n => n⟩
theorem lays : Lays.n156 Tryd.prog ren := {
  mixed := by kernel_rfl
  f156 := Tryd.func62.trans (congrArg some (by kernel_rfl))
  f165 := Tryd.func88.trans (congrArg some (by kernel_rfl))
  f166 := Tryd.func89.trans (congrArg some (by kernel_rfl))
  f169 := Tryd.func90.trans (congrArg some (by kernel_rfl))
  f240 := Tryd.func97.trans (congrArg some (by kernel_rfl))
  f241 := Tryd.func98.trans (congrArg some (by kernel_rfl))
  f276 := Tryd.func102.trans (congrArg some (by kernel_rfl))
  f277 := Tryd.func103.trans (congrArg some (by kernel_rfl))
  t0 := Tryd.underlying0
  a0 := Tryd.isAgg0
  z0 := Tryd.sizeOf0
  v0 := Tryd.zeroValue0
  t3 := Tryd.underlying3
  a3 := Tryd.isAgg3
  z3 := Tryd.sizeOf3
  v3 := Tryd.zeroValue3
  t4 := Tryd.underlying4
  a4 := Tryd.isAgg4
  z4 := Tryd.sizeOf4
  v4 := Tryd.zeroValue4
  t9 := Tryd.underlying9
  a9 := Tryd.isAgg9
  z9 := Tryd.sizeOf9
  v9 := Tryd.zeroValue9
  t20 := Tryd.underlying20
  a20 := Tryd.isAgg20
  z20 := Tryd.sizeOf20
  v20 := Tryd.zeroValue20
  t31 := Tryd.underlying64
  a31 := Tryd.isAgg64
  z31 := Tryd.sizeOf64
  v31 := Tryd.zeroValue64
  t37 := Tryd.underlying66
  a37 := Tryd.isAgg66
  z37 := Tryd.sizeOf66
  v37 := Tryd.zeroValue66
  t70 := Tryd.underlying83
  a70 := Tryd.isAgg83
  z70 := Tryd.sizeOf83
  v70 := Tryd.zeroValue83
  t72 := Tryd.underlying85
  a72 := Tryd.isAgg85
  z72 := Tryd.sizeOf85
  v72 := Tryd.zeroValue85
  t75 := Tryd.underlying88
  a75 := Tryd.isAgg88
  z75 := Tryd.sizeOf88
  v75 := Tryd.zeroValue88
  t76 := Tryd.underlying89
  a76 := Tryd.isAgg89
  z76 := Tryd.sizeOf89
  v76 := Tryd.zeroValue89
  t127 := Tryd.underlying98
  a127 := Tryd.isAgg98
  z127 := Tryd.sizeOf98
  v127 := Tryd.zeroValue98
  t164 := Tryd.underlying100
  a164 := Tryd.isAgg100
  z164 := Tryd.sizeOf100
  v164 := Tryd.zeroValue100 }
theorem ext : Builder.Extra Tryd.prog ren := { sizeBuilder := by kernel_rfl, liesBuilder := by kernel_rfl, t5 := Tryd.underlying5, a5 := Tryd.isAgg5, z5 := Tryd.sizeOf5, v5 := Tryd.zeroValue5, infoByte := by kernel_rfl, cellsByte := by kernel_rfl, sizeByte := by kernel_rfl, neB5 := by decide }
end Go.Proofs.AbSh
namespace Go.Ab
open Go.Proofs
theorem joinC : JoinC Tryd.prog 62 where
  here := ⟨_, _, Tryd.func62, by unfold Tryd.f62; decide, by unfold Tryd.f62; rfl⟩
  empty := fun a c sep w => Any.strings_Join_none AbSh.lays AbSh.ext a c sep w
  full := fun bk o c xs sep w h1 h2 h3 h4 h5 => Any.strings_Join AbSh.lays AbSh.ext bk o c xs sep w h1 h2 h3 h4 h5
theorem prim0_ok : FnOk Tryd.prog prim0 := fun f xs r os h => by
  unfold prim0 at h
  split at h
  · rename_i hf
    rw [beq_iff_eq] at hf
    subst hf
    exact join_ok joinC h
  · cases h
end Go.Ab
