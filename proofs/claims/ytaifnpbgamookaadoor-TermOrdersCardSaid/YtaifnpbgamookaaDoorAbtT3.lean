/- Terms of each kind: compared, the same. Conditions: limbs in range. -/
import Derived.Test.YtaifnpbgamookaaDoorAbtT2
namespace Go.Ab
open Go.Proofs
set_option maxRecDepth 100000
set_option linter.unusedSimpArgs false

def noK : AV := .sl [] 0 .nil
def nilC : List AV := [.int .i64 3, .bool false, .sl [] 0 .nil, .str [], .int .i64 0, .sl [] 0 .nil]
/-- A term of each kind. -/
def kT (b : Bool) (g : Gk) (l : List Nat) (s : List UInt8) : Nat → List AV
  | 0 => [.int .i64 1, .bool b, encL g l, .str [], .int .i64 0, .sl [] 0 .nil]
  | 1 => [.int .i64 2, .bool false, .sl [] 0 .nil, .str s, .int .i64 0, .sl [] 0 .nil]
  | 2 => [.int .i64 7, .bool false, .sl [] 0 .nil, .str [], .int .i64 3, .sl [] 0 .nil]
  | 3 => [.int .i64 5, .bool false, .sl [] 0 .nil, .str [], .int .i64 0, .sl [] 0 .nil]
  | 4 => [.int .i64 3, .bool false, .sl [] 0 .nil, .str [], .int .i64 0, .sl [] 0 .nil]
  | 5 => [.int .i64 4, .bool false, .sl [] 0 .nil, .str [], .int .i64 0, .sl [.int .i64 3, .bool false, .sl [] 0 .nil, .str [], .int .i64 0, .sl [] 0 .nil, .int .i64 3, .bool false, .sl [] 0 .nil, .str [], .int .i64 0, .sl [] 0 .nil] 2 .tight]
  | 6 => [.int .i64 6, .bool false, .sl [] 0 .nil, .str s, .int .i64 0, .sl [] 0 .nil]
  | 7 => [.int .i64 8, .bool false, .sl [] 0 .nil, .str s, .int .i64 0, .sl [] 0 .nil]
  | _ => [.int .i64 9, .bool false, .sl [] 0 .nil, .str [], .int .i64 7, .sl [] 0 .nil]
def cmpN (i k : Nat) : Int := if i < k then -1 else if k < i then 1 else 0
section
variable (b : Bool) (g : Gk) (l : List Nat) (s : List UInt8)
theorem cK_0_1 : evalFn Tryd.prog cfg0 100000 14 22 [.tree (.agg (kT b g l s 0)), .tree (.agg (kT b g l s 1))] = some (.tree (.int .i64 (-1)), [[], []]) := by kernel_rfl
theorem sK_0_1 : evalFn Tryd.prog cfg0 100000 14 20 [.tree (.agg (kT b g l s 0)), .tree (.agg (kT b g l s 1))] = some (.tree (.bool false), [[], []]) := by kernel_rfl
theorem cK_0_2 : evalFn Tryd.prog cfg0 100000 14 22 [.tree (.agg (kT b g l s 0)), .tree (.agg (kT b g l s 2))] = some (.tree (.int .i64 (-1)), [[], []]) := by kernel_rfl
theorem sK_0_2 : evalFn Tryd.prog cfg0 100000 14 20 [.tree (.agg (kT b g l s 0)), .tree (.agg (kT b g l s 2))] = some (.tree (.bool false), [[], []]) := by kernel_rfl
theorem cK_0_3 : evalFn Tryd.prog cfg0 100000 14 22 [.tree (.agg (kT b g l s 0)), .tree (.agg (kT b g l s 3))] = some (.tree (.int .i64 (-1)), [[], []]) := by kernel_rfl
theorem sK_0_3 : evalFn Tryd.prog cfg0 100000 14 20 [.tree (.agg (kT b g l s 0)), .tree (.agg (kT b g l s 3))] = some (.tree (.bool false), [[], []]) := by kernel_rfl
theorem cK_0_4 : evalFn Tryd.prog cfg0 100000 14 22 [.tree (.agg (kT b g l s 0)), .tree (.agg (kT b g l s 4))] = some (.tree (.int .i64 (-1)), [[], []]) := by kernel_rfl
theorem sK_0_4 : evalFn Tryd.prog cfg0 100000 14 20 [.tree (.agg (kT b g l s 0)), .tree (.agg (kT b g l s 4))] = some (.tree (.bool false), [[], []]) := by kernel_rfl
theorem cK_0_5 : evalFn Tryd.prog cfg0 100000 14 22 [.tree (.agg (kT b g l s 0)), .tree (.agg (kT b g l s 5))] = some (.tree (.int .i64 (-1)), [[], []]) := by kernel_rfl
theorem sK_0_5 : evalFn Tryd.prog cfg0 100000 14 20 [.tree (.agg (kT b g l s 0)), .tree (.agg (kT b g l s 5))] = some (.tree (.bool false), [[], []]) := by kernel_rfl
theorem cK_0_6 : evalFn Tryd.prog cfg0 100000 14 22 [.tree (.agg (kT b g l s 0)), .tree (.agg (kT b g l s 6))] = some (.tree (.int .i64 (-1)), [[], []]) := by kernel_rfl
theorem sK_0_6 : evalFn Tryd.prog cfg0 100000 14 20 [.tree (.agg (kT b g l s 0)), .tree (.agg (kT b g l s 6))] = some (.tree (.bool false), [[], []]) := by kernel_rfl
theorem cK_0_7 : evalFn Tryd.prog cfg0 100000 14 22 [.tree (.agg (kT b g l s 0)), .tree (.agg (kT b g l s 7))] = some (.tree (.int .i64 (-1)), [[], []]) := by kernel_rfl
theorem sK_0_7 : evalFn Tryd.prog cfg0 100000 14 20 [.tree (.agg (kT b g l s 0)), .tree (.agg (kT b g l s 7))] = some (.tree (.bool false), [[], []]) := by kernel_rfl
theorem cK_0_8 : evalFn Tryd.prog cfg0 100000 14 22 [.tree (.agg (kT b g l s 0)), .tree (.agg (kT b g l s 8))] = some (.tree (.int .i64 (-1)), [[], []]) := by kernel_rfl
theorem sK_0_8 : evalFn Tryd.prog cfg0 100000 14 20 [.tree (.agg (kT b g l s 0)), .tree (.agg (kT b g l s 8))] = some (.tree (.bool false), [[], []]) := by kernel_rfl
theorem cK_1_0 : evalFn Tryd.prog cfg0 100000 14 22 [.tree (.agg (kT b g l s 1)), .tree (.agg (kT b g l s 0))] = some (.tree (.int .i64 (1)), [[], []]) := by kernel_rfl
theorem sK_1_0 : evalFn Tryd.prog cfg0 100000 14 20 [.tree (.agg (kT b g l s 1)), .tree (.agg (kT b g l s 0))] = some (.tree (.bool false), [[], []]) := by kernel_rfl
theorem cK_1_2 : evalFn Tryd.prog cfg0 100000 14 22 [.tree (.agg (kT b g l s 1)), .tree (.agg (kT b g l s 2))] = some (.tree (.int .i64 (-1)), [[], []]) := by kernel_rfl
theorem sK_1_2 : evalFn Tryd.prog cfg0 100000 14 20 [.tree (.agg (kT b g l s 1)), .tree (.agg (kT b g l s 2))] = some (.tree (.bool false), [[], []]) := by kernel_rfl
theorem cK_1_3 : evalFn Tryd.prog cfg0 100000 14 22 [.tree (.agg (kT b g l s 1)), .tree (.agg (kT b g l s 3))] = some (.tree (.int .i64 (-1)), [[], []]) := by kernel_rfl
theorem sK_1_3 : evalFn Tryd.prog cfg0 100000 14 20 [.tree (.agg (kT b g l s 1)), .tree (.agg (kT b g l s 3))] = some (.tree (.bool false), [[], []]) := by kernel_rfl
theorem cK_1_4 : evalFn Tryd.prog cfg0 100000 14 22 [.tree (.agg (kT b g l s 1)), .tree (.agg (kT b g l s 4))] = some (.tree (.int .i64 (-1)), [[], []]) := by kernel_rfl
theorem sK_1_4 : evalFn Tryd.prog cfg0 100000 14 20 [.tree (.agg (kT b g l s 1)), .tree (.agg (kT b g l s 4))] = some (.tree (.bool false), [[], []]) := by kernel_rfl
theorem cK_1_5 : evalFn Tryd.prog cfg0 100000 14 22 [.tree (.agg (kT b g l s 1)), .tree (.agg (kT b g l s 5))] = some (.tree (.int .i64 (-1)), [[], []]) := by kernel_rfl
theorem sK_1_5 : evalFn Tryd.prog cfg0 100000 14 20 [.tree (.agg (kT b g l s 1)), .tree (.agg (kT b g l s 5))] = some (.tree (.bool false), [[], []]) := by kernel_rfl
theorem cK_1_6 : evalFn Tryd.prog cfg0 100000 14 22 [.tree (.agg (kT b g l s 1)), .tree (.agg (kT b g l s 6))] = some (.tree (.int .i64 (-1)), [[], []]) := by kernel_rfl
theorem sK_1_6 : evalFn Tryd.prog cfg0 100000 14 20 [.tree (.agg (kT b g l s 1)), .tree (.agg (kT b g l s 6))] = some (.tree (.bool false), [[], []]) := by kernel_rfl
theorem cK_1_7 : evalFn Tryd.prog cfg0 100000 14 22 [.tree (.agg (kT b g l s 1)), .tree (.agg (kT b g l s 7))] = some (.tree (.int .i64 (-1)), [[], []]) := by kernel_rfl
theorem sK_1_7 : evalFn Tryd.prog cfg0 100000 14 20 [.tree (.agg (kT b g l s 1)), .tree (.agg (kT b g l s 7))] = some (.tree (.bool false), [[], []]) := by kernel_rfl
theorem cK_1_8 : evalFn Tryd.prog cfg0 100000 14 22 [.tree (.agg (kT b g l s 1)), .tree (.agg (kT b g l s 8))] = some (.tree (.int .i64 (-1)), [[], []]) := by kernel_rfl
theorem sK_1_8 : evalFn Tryd.prog cfg0 100000 14 20 [.tree (.agg (kT b g l s 1)), .tree (.agg (kT b g l s 8))] = some (.tree (.bool false), [[], []]) := by kernel_rfl
theorem cK_2_0 : evalFn Tryd.prog cfg0 100000 14 22 [.tree (.agg (kT b g l s 2)), .tree (.agg (kT b g l s 0))] = some (.tree (.int .i64 (1)), [[], []]) := by kernel_rfl
theorem sK_2_0 : evalFn Tryd.prog cfg0 100000 14 20 [.tree (.agg (kT b g l s 2)), .tree (.agg (kT b g l s 0))] = some (.tree (.bool false), [[], []]) := by kernel_rfl
theorem cK_2_1 : evalFn Tryd.prog cfg0 100000 14 22 [.tree (.agg (kT b g l s 2)), .tree (.agg (kT b g l s 1))] = some (.tree (.int .i64 (1)), [[], []]) := by kernel_rfl
theorem sK_2_1 : evalFn Tryd.prog cfg0 100000 14 20 [.tree (.agg (kT b g l s 2)), .tree (.agg (kT b g l s 1))] = some (.tree (.bool false), [[], []]) := by kernel_rfl
theorem cK_2_2 : evalFn Tryd.prog cfg0 100000 14 22 [.tree (.agg (kT b g l s 2)), .tree (.agg (kT b g l s 2))] = some (.tree (.int .i64 (0)), [[], []]) := by kernel_rfl
theorem sK_2_2 : evalFn Tryd.prog cfg0 100000 14 20 [.tree (.agg (kT b g l s 2)), .tree (.agg (kT b g l s 2))] = some (.tree (.bool true), [[], []]) := by kernel_rfl
theorem cK_2_3 : evalFn Tryd.prog cfg0 100000 14 22 [.tree (.agg (kT b g l s 2)), .tree (.agg (kT b g l s 3))] = some (.tree (.int .i64 (-1)), [[], []]) := by kernel_rfl
theorem sK_2_3 : evalFn Tryd.prog cfg0 100000 14 20 [.tree (.agg (kT b g l s 2)), .tree (.agg (kT b g l s 3))] = some (.tree (.bool false), [[], []]) := by kernel_rfl
theorem cK_2_4 : evalFn Tryd.prog cfg0 100000 14 22 [.tree (.agg (kT b g l s 2)), .tree (.agg (kT b g l s 4))] = some (.tree (.int .i64 (-1)), [[], []]) := by kernel_rfl
theorem sK_2_4 : evalFn Tryd.prog cfg0 100000 14 20 [.tree (.agg (kT b g l s 2)), .tree (.agg (kT b g l s 4))] = some (.tree (.bool false), [[], []]) := by kernel_rfl
theorem cK_2_5 : evalFn Tryd.prog cfg0 100000 14 22 [.tree (.agg (kT b g l s 2)), .tree (.agg (kT b g l s 5))] = some (.tree (.int .i64 (-1)), [[], []]) := by kernel_rfl
theorem sK_2_5 : evalFn Tryd.prog cfg0 100000 14 20 [.tree (.agg (kT b g l s 2)), .tree (.agg (kT b g l s 5))] = some (.tree (.bool false), [[], []]) := by kernel_rfl
theorem cK_2_6 : evalFn Tryd.prog cfg0 100000 14 22 [.tree (.agg (kT b g l s 2)), .tree (.agg (kT b g l s 6))] = some (.tree (.int .i64 (-1)), [[], []]) := by kernel_rfl
theorem sK_2_6 : evalFn Tryd.prog cfg0 100000 14 20 [.tree (.agg (kT b g l s 2)), .tree (.agg (kT b g l s 6))] = some (.tree (.bool false), [[], []]) := by kernel_rfl
theorem cK_2_7 : evalFn Tryd.prog cfg0 100000 14 22 [.tree (.agg (kT b g l s 2)), .tree (.agg (kT b g l s 7))] = some (.tree (.int .i64 (-1)), [[], []]) := by kernel_rfl
theorem sK_2_7 : evalFn Tryd.prog cfg0 100000 14 20 [.tree (.agg (kT b g l s 2)), .tree (.agg (kT b g l s 7))] = some (.tree (.bool false), [[], []]) := by kernel_rfl
theorem cK_2_8 : evalFn Tryd.prog cfg0 100000 14 22 [.tree (.agg (kT b g l s 2)), .tree (.agg (kT b g l s 8))] = some (.tree (.int .i64 (-1)), [[], []]) := by kernel_rfl
theorem sK_2_8 : evalFn Tryd.prog cfg0 100000 14 20 [.tree (.agg (kT b g l s 2)), .tree (.agg (kT b g l s 8))] = some (.tree (.bool false), [[], []]) := by kernel_rfl
theorem cK_3_0 : evalFn Tryd.prog cfg0 100000 14 22 [.tree (.agg (kT b g l s 3)), .tree (.agg (kT b g l s 0))] = some (.tree (.int .i64 (1)), [[], []]) := by kernel_rfl
theorem sK_3_0 : evalFn Tryd.prog cfg0 100000 14 20 [.tree (.agg (kT b g l s 3)), .tree (.agg (kT b g l s 0))] = some (.tree (.bool false), [[], []]) := by kernel_rfl
theorem cK_3_1 : evalFn Tryd.prog cfg0 100000 14 22 [.tree (.agg (kT b g l s 3)), .tree (.agg (kT b g l s 1))] = some (.tree (.int .i64 (1)), [[], []]) := by kernel_rfl
theorem sK_3_1 : evalFn Tryd.prog cfg0 100000 14 20 [.tree (.agg (kT b g l s 3)), .tree (.agg (kT b g l s 1))] = some (.tree (.bool false), [[], []]) := by kernel_rfl
theorem cK_3_2 : evalFn Tryd.prog cfg0 100000 14 22 [.tree (.agg (kT b g l s 3)), .tree (.agg (kT b g l s 2))] = some (.tree (.int .i64 (1)), [[], []]) := by kernel_rfl
theorem sK_3_2 : evalFn Tryd.prog cfg0 100000 14 20 [.tree (.agg (kT b g l s 3)), .tree (.agg (kT b g l s 2))] = some (.tree (.bool false), [[], []]) := by kernel_rfl
theorem cK_3_3 : evalFn Tryd.prog cfg0 100000 14 22 [.tree (.agg (kT b g l s 3)), .tree (.agg (kT b g l s 3))] = some (.tree (.int .i64 (0)), [[], []]) := by kernel_rfl
theorem sK_3_3 : evalFn Tryd.prog cfg0 100000 14 20 [.tree (.agg (kT b g l s 3)), .tree (.agg (kT b g l s 3))] = some (.tree (.bool true), [[], []]) := by kernel_rfl
theorem cK_3_4 : evalFn Tryd.prog cfg0 100000 14 22 [.tree (.agg (kT b g l s 3)), .tree (.agg (kT b g l s 4))] = some (.tree (.int .i64 (-1)), [[], []]) := by kernel_rfl
theorem sK_3_4 : evalFn Tryd.prog cfg0 100000 14 20 [.tree (.agg (kT b g l s 3)), .tree (.agg (kT b g l s 4))] = some (.tree (.bool false), [[], []]) := by kernel_rfl
theorem cK_3_5 : evalFn Tryd.prog cfg0 100000 14 22 [.tree (.agg (kT b g l s 3)), .tree (.agg (kT b g l s 5))] = some (.tree (.int .i64 (-1)), [[], []]) := by kernel_rfl
theorem sK_3_5 : evalFn Tryd.prog cfg0 100000 14 20 [.tree (.agg (kT b g l s 3)), .tree (.agg (kT b g l s 5))] = some (.tree (.bool false), [[], []]) := by kernel_rfl
theorem cK_3_6 : evalFn Tryd.prog cfg0 100000 14 22 [.tree (.agg (kT b g l s 3)), .tree (.agg (kT b g l s 6))] = some (.tree (.int .i64 (-1)), [[], []]) := by kernel_rfl
theorem sK_3_6 : evalFn Tryd.prog cfg0 100000 14 20 [.tree (.agg (kT b g l s 3)), .tree (.agg (kT b g l s 6))] = some (.tree (.bool false), [[], []]) := by kernel_rfl
theorem cK_3_7 : evalFn Tryd.prog cfg0 100000 14 22 [.tree (.agg (kT b g l s 3)), .tree (.agg (kT b g l s 7))] = some (.tree (.int .i64 (-1)), [[], []]) := by kernel_rfl
theorem sK_3_7 : evalFn Tryd.prog cfg0 100000 14 20 [.tree (.agg (kT b g l s 3)), .tree (.agg (kT b g l s 7))] = some (.tree (.bool false), [[], []]) := by kernel_rfl
theorem cK_3_8 : evalFn Tryd.prog cfg0 100000 14 22 [.tree (.agg (kT b g l s 3)), .tree (.agg (kT b g l s 8))] = some (.tree (.int .i64 (-1)), [[], []]) := by kernel_rfl
theorem sK_3_8 : evalFn Tryd.prog cfg0 100000 14 20 [.tree (.agg (kT b g l s 3)), .tree (.agg (kT b g l s 8))] = some (.tree (.bool false), [[], []]) := by kernel_rfl
theorem cK_4_0 : evalFn Tryd.prog cfg0 100000 14 22 [.tree (.agg (kT b g l s 4)), .tree (.agg (kT b g l s 0))] = some (.tree (.int .i64 (1)), [[], []]) := by kernel_rfl
theorem sK_4_0 : evalFn Tryd.prog cfg0 100000 14 20 [.tree (.agg (kT b g l s 4)), .tree (.agg (kT b g l s 0))] = some (.tree (.bool false), [[], []]) := by kernel_rfl
theorem cK_4_1 : evalFn Tryd.prog cfg0 100000 14 22 [.tree (.agg (kT b g l s 4)), .tree (.agg (kT b g l s 1))] = some (.tree (.int .i64 (1)), [[], []]) := by kernel_rfl
theorem sK_4_1 : evalFn Tryd.prog cfg0 100000 14 20 [.tree (.agg (kT b g l s 4)), .tree (.agg (kT b g l s 1))] = some (.tree (.bool false), [[], []]) := by kernel_rfl
theorem cK_4_2 : evalFn Tryd.prog cfg0 100000 14 22 [.tree (.agg (kT b g l s 4)), .tree (.agg (kT b g l s 2))] = some (.tree (.int .i64 (1)), [[], []]) := by kernel_rfl
theorem sK_4_2 : evalFn Tryd.prog cfg0 100000 14 20 [.tree (.agg (kT b g l s 4)), .tree (.agg (kT b g l s 2))] = some (.tree (.bool false), [[], []]) := by kernel_rfl
theorem cK_4_3 : evalFn Tryd.prog cfg0 100000 14 22 [.tree (.agg (kT b g l s 4)), .tree (.agg (kT b g l s 3))] = some (.tree (.int .i64 (1)), [[], []]) := by kernel_rfl
theorem sK_4_3 : evalFn Tryd.prog cfg0 100000 14 20 [.tree (.agg (kT b g l s 4)), .tree (.agg (kT b g l s 3))] = some (.tree (.bool false), [[], []]) := by kernel_rfl
theorem cK_4_4 : evalFn Tryd.prog cfg0 100000 14 22 [.tree (.agg (kT b g l s 4)), .tree (.agg (kT b g l s 4))] = some (.tree (.int .i64 (0)), [[], []]) := by kernel_rfl
theorem sK_4_4 : evalFn Tryd.prog cfg0 100000 14 20 [.tree (.agg (kT b g l s 4)), .tree (.agg (kT b g l s 4))] = some (.tree (.bool true), [[], []]) := by kernel_rfl
theorem cK_4_5 : evalFn Tryd.prog cfg0 100000 14 22 [.tree (.agg (kT b g l s 4)), .tree (.agg (kT b g l s 5))] = some (.tree (.int .i64 (-1)), [[], []]) := by kernel_rfl
theorem sK_4_5 : evalFn Tryd.prog cfg0 100000 14 20 [.tree (.agg (kT b g l s 4)), .tree (.agg (kT b g l s 5))] = some (.tree (.bool false), [[], []]) := by kernel_rfl
theorem cK_4_6 : evalFn Tryd.prog cfg0 100000 14 22 [.tree (.agg (kT b g l s 4)), .tree (.agg (kT b g l s 6))] = some (.tree (.int .i64 (-1)), [[], []]) := by kernel_rfl
theorem sK_4_6 : evalFn Tryd.prog cfg0 100000 14 20 [.tree (.agg (kT b g l s 4)), .tree (.agg (kT b g l s 6))] = some (.tree (.bool false), [[], []]) := by kernel_rfl
theorem cK_4_7 : evalFn Tryd.prog cfg0 100000 14 22 [.tree (.agg (kT b g l s 4)), .tree (.agg (kT b g l s 7))] = some (.tree (.int .i64 (-1)), [[], []]) := by kernel_rfl
theorem sK_4_7 : evalFn Tryd.prog cfg0 100000 14 20 [.tree (.agg (kT b g l s 4)), .tree (.agg (kT b g l s 7))] = some (.tree (.bool false), [[], []]) := by kernel_rfl
theorem cK_4_8 : evalFn Tryd.prog cfg0 100000 14 22 [.tree (.agg (kT b g l s 4)), .tree (.agg (kT b g l s 8))] = some (.tree (.int .i64 (-1)), [[], []]) := by kernel_rfl
theorem sK_4_8 : evalFn Tryd.prog cfg0 100000 14 20 [.tree (.agg (kT b g l s 4)), .tree (.agg (kT b g l s 8))] = some (.tree (.bool false), [[], []]) := by kernel_rfl
theorem cK_5_0 : evalFn Tryd.prog cfg0 100000 14 22 [.tree (.agg (kT b g l s 5)), .tree (.agg (kT b g l s 0))] = some (.tree (.int .i64 (1)), [[], []]) := by kernel_rfl
theorem sK_5_0 : evalFn Tryd.prog cfg0 100000 14 20 [.tree (.agg (kT b g l s 5)), .tree (.agg (kT b g l s 0))] = some (.tree (.bool false), [[], []]) := by kernel_rfl
theorem cK_5_1 : evalFn Tryd.prog cfg0 100000 14 22 [.tree (.agg (kT b g l s 5)), .tree (.agg (kT b g l s 1))] = some (.tree (.int .i64 (1)), [[], []]) := by kernel_rfl
theorem sK_5_1 : evalFn Tryd.prog cfg0 100000 14 20 [.tree (.agg (kT b g l s 5)), .tree (.agg (kT b g l s 1))] = some (.tree (.bool false), [[], []]) := by kernel_rfl
theorem cK_5_2 : evalFn Tryd.prog cfg0 100000 14 22 [.tree (.agg (kT b g l s 5)), .tree (.agg (kT b g l s 2))] = some (.tree (.int .i64 (1)), [[], []]) := by kernel_rfl
theorem sK_5_2 : evalFn Tryd.prog cfg0 100000 14 20 [.tree (.agg (kT b g l s 5)), .tree (.agg (kT b g l s 2))] = some (.tree (.bool false), [[], []]) := by kernel_rfl
theorem cK_5_3 : evalFn Tryd.prog cfg0 100000 14 22 [.tree (.agg (kT b g l s 5)), .tree (.agg (kT b g l s 3))] = some (.tree (.int .i64 (1)), [[], []]) := by kernel_rfl
theorem sK_5_3 : evalFn Tryd.prog cfg0 100000 14 20 [.tree (.agg (kT b g l s 5)), .tree (.agg (kT b g l s 3))] = some (.tree (.bool false), [[], []]) := by kernel_rfl
theorem cK_5_4 : evalFn Tryd.prog cfg0 100000 14 22 [.tree (.agg (kT b g l s 5)), .tree (.agg (kT b g l s 4))] = some (.tree (.int .i64 (1)), [[], []]) := by kernel_rfl
theorem sK_5_4 : evalFn Tryd.prog cfg0 100000 14 20 [.tree (.agg (kT b g l s 5)), .tree (.agg (kT b g l s 4))] = some (.tree (.bool false), [[], []]) := by kernel_rfl
theorem cK_5_5 : evalFn Tryd.prog cfg0 100000 14 22 [.tree (.agg (kT b g l s 5)), .tree (.agg (kT b g l s 5))] = some (.tree (.int .i64 (0)), [[], []]) := by kernel_rfl
theorem sK_5_5 : evalFn Tryd.prog cfg0 100000 14 20 [.tree (.agg (kT b g l s 5)), .tree (.agg (kT b g l s 5))] = some (.tree (.bool true), [[], []]) := by kernel_rfl
theorem cK_5_6 : evalFn Tryd.prog cfg0 100000 14 22 [.tree (.agg (kT b g l s 5)), .tree (.agg (kT b g l s 6))] = some (.tree (.int .i64 (-1)), [[], []]) := by kernel_rfl
theorem sK_5_6 : evalFn Tryd.prog cfg0 100000 14 20 [.tree (.agg (kT b g l s 5)), .tree (.agg (kT b g l s 6))] = some (.tree (.bool false), [[], []]) := by kernel_rfl
theorem cK_5_7 : evalFn Tryd.prog cfg0 100000 14 22 [.tree (.agg (kT b g l s 5)), .tree (.agg (kT b g l s 7))] = some (.tree (.int .i64 (-1)), [[], []]) := by kernel_rfl
theorem sK_5_7 : evalFn Tryd.prog cfg0 100000 14 20 [.tree (.agg (kT b g l s 5)), .tree (.agg (kT b g l s 7))] = some (.tree (.bool false), [[], []]) := by kernel_rfl
theorem cK_5_8 : evalFn Tryd.prog cfg0 100000 14 22 [.tree (.agg (kT b g l s 5)), .tree (.agg (kT b g l s 8))] = some (.tree (.int .i64 (-1)), [[], []]) := by kernel_rfl
theorem sK_5_8 : evalFn Tryd.prog cfg0 100000 14 20 [.tree (.agg (kT b g l s 5)), .tree (.agg (kT b g l s 8))] = some (.tree (.bool false), [[], []]) := by kernel_rfl
theorem cK_6_0 : evalFn Tryd.prog cfg0 100000 14 22 [.tree (.agg (kT b g l s 6)), .tree (.agg (kT b g l s 0))] = some (.tree (.int .i64 (1)), [[], []]) := by kernel_rfl
theorem sK_6_0 : evalFn Tryd.prog cfg0 100000 14 20 [.tree (.agg (kT b g l s 6)), .tree (.agg (kT b g l s 0))] = some (.tree (.bool false), [[], []]) := by kernel_rfl
theorem cK_6_1 : evalFn Tryd.prog cfg0 100000 14 22 [.tree (.agg (kT b g l s 6)), .tree (.agg (kT b g l s 1))] = some (.tree (.int .i64 (1)), [[], []]) := by kernel_rfl
theorem sK_6_1 : evalFn Tryd.prog cfg0 100000 14 20 [.tree (.agg (kT b g l s 6)), .tree (.agg (kT b g l s 1))] = some (.tree (.bool false), [[], []]) := by kernel_rfl
theorem cK_6_2 : evalFn Tryd.prog cfg0 100000 14 22 [.tree (.agg (kT b g l s 6)), .tree (.agg (kT b g l s 2))] = some (.tree (.int .i64 (1)), [[], []]) := by kernel_rfl
theorem sK_6_2 : evalFn Tryd.prog cfg0 100000 14 20 [.tree (.agg (kT b g l s 6)), .tree (.agg (kT b g l s 2))] = some (.tree (.bool false), [[], []]) := by kernel_rfl
theorem cK_6_3 : evalFn Tryd.prog cfg0 100000 14 22 [.tree (.agg (kT b g l s 6)), .tree (.agg (kT b g l s 3))] = some (.tree (.int .i64 (1)), [[], []]) := by kernel_rfl
theorem sK_6_3 : evalFn Tryd.prog cfg0 100000 14 20 [.tree (.agg (kT b g l s 6)), .tree (.agg (kT b g l s 3))] = some (.tree (.bool false), [[], []]) := by kernel_rfl
theorem cK_6_4 : evalFn Tryd.prog cfg0 100000 14 22 [.tree (.agg (kT b g l s 6)), .tree (.agg (kT b g l s 4))] = some (.tree (.int .i64 (1)), [[], []]) := by kernel_rfl
theorem sK_6_4 : evalFn Tryd.prog cfg0 100000 14 20 [.tree (.agg (kT b g l s 6)), .tree (.agg (kT b g l s 4))] = some (.tree (.bool false), [[], []]) := by kernel_rfl
theorem cK_6_5 : evalFn Tryd.prog cfg0 100000 14 22 [.tree (.agg (kT b g l s 6)), .tree (.agg (kT b g l s 5))] = some (.tree (.int .i64 (1)), [[], []]) := by kernel_rfl
theorem sK_6_5 : evalFn Tryd.prog cfg0 100000 14 20 [.tree (.agg (kT b g l s 6)), .tree (.agg (kT b g l s 5))] = some (.tree (.bool false), [[], []]) := by kernel_rfl
theorem cK_6_7 : evalFn Tryd.prog cfg0 100000 14 22 [.tree (.agg (kT b g l s 6)), .tree (.agg (kT b g l s 7))] = some (.tree (.int .i64 (-1)), [[], []]) := by kernel_rfl
theorem sK_6_7 : evalFn Tryd.prog cfg0 100000 14 20 [.tree (.agg (kT b g l s 6)), .tree (.agg (kT b g l s 7))] = some (.tree (.bool false), [[], []]) := by kernel_rfl
theorem cK_6_8 : evalFn Tryd.prog cfg0 100000 14 22 [.tree (.agg (kT b g l s 6)), .tree (.agg (kT b g l s 8))] = some (.tree (.int .i64 (-1)), [[], []]) := by kernel_rfl
theorem sK_6_8 : evalFn Tryd.prog cfg0 100000 14 20 [.tree (.agg (kT b g l s 6)), .tree (.agg (kT b g l s 8))] = some (.tree (.bool false), [[], []]) := by kernel_rfl
theorem cK_7_0 : evalFn Tryd.prog cfg0 100000 14 22 [.tree (.agg (kT b g l s 7)), .tree (.agg (kT b g l s 0))] = some (.tree (.int .i64 (1)), [[], []]) := by kernel_rfl
theorem sK_7_0 : evalFn Tryd.prog cfg0 100000 14 20 [.tree (.agg (kT b g l s 7)), .tree (.agg (kT b g l s 0))] = some (.tree (.bool false), [[], []]) := by kernel_rfl
theorem cK_7_1 : evalFn Tryd.prog cfg0 100000 14 22 [.tree (.agg (kT b g l s 7)), .tree (.agg (kT b g l s 1))] = some (.tree (.int .i64 (1)), [[], []]) := by kernel_rfl
theorem sK_7_1 : evalFn Tryd.prog cfg0 100000 14 20 [.tree (.agg (kT b g l s 7)), .tree (.agg (kT b g l s 1))] = some (.tree (.bool false), [[], []]) := by kernel_rfl
theorem cK_7_2 : evalFn Tryd.prog cfg0 100000 14 22 [.tree (.agg (kT b g l s 7)), .tree (.agg (kT b g l s 2))] = some (.tree (.int .i64 (1)), [[], []]) := by kernel_rfl
theorem sK_7_2 : evalFn Tryd.prog cfg0 100000 14 20 [.tree (.agg (kT b g l s 7)), .tree (.agg (kT b g l s 2))] = some (.tree (.bool false), [[], []]) := by kernel_rfl
theorem cK_7_3 : evalFn Tryd.prog cfg0 100000 14 22 [.tree (.agg (kT b g l s 7)), .tree (.agg (kT b g l s 3))] = some (.tree (.int .i64 (1)), [[], []]) := by kernel_rfl
theorem sK_7_3 : evalFn Tryd.prog cfg0 100000 14 20 [.tree (.agg (kT b g l s 7)), .tree (.agg (kT b g l s 3))] = some (.tree (.bool false), [[], []]) := by kernel_rfl
theorem cK_7_4 : evalFn Tryd.prog cfg0 100000 14 22 [.tree (.agg (kT b g l s 7)), .tree (.agg (kT b g l s 4))] = some (.tree (.int .i64 (1)), [[], []]) := by kernel_rfl
theorem sK_7_4 : evalFn Tryd.prog cfg0 100000 14 20 [.tree (.agg (kT b g l s 7)), .tree (.agg (kT b g l s 4))] = some (.tree (.bool false), [[], []]) := by kernel_rfl
theorem cK_7_5 : evalFn Tryd.prog cfg0 100000 14 22 [.tree (.agg (kT b g l s 7)), .tree (.agg (kT b g l s 5))] = some (.tree (.int .i64 (1)), [[], []]) := by kernel_rfl
theorem sK_7_5 : evalFn Tryd.prog cfg0 100000 14 20 [.tree (.agg (kT b g l s 7)), .tree (.agg (kT b g l s 5))] = some (.tree (.bool false), [[], []]) := by kernel_rfl
theorem cK_7_6 : evalFn Tryd.prog cfg0 100000 14 22 [.tree (.agg (kT b g l s 7)), .tree (.agg (kT b g l s 6))] = some (.tree (.int .i64 (1)), [[], []]) := by kernel_rfl
theorem sK_7_6 : evalFn Tryd.prog cfg0 100000 14 20 [.tree (.agg (kT b g l s 7)), .tree (.agg (kT b g l s 6))] = some (.tree (.bool false), [[], []]) := by kernel_rfl
theorem cK_7_8 : evalFn Tryd.prog cfg0 100000 14 22 [.tree (.agg (kT b g l s 7)), .tree (.agg (kT b g l s 8))] = some (.tree (.int .i64 (-1)), [[], []]) := by kernel_rfl
theorem sK_7_8 : evalFn Tryd.prog cfg0 100000 14 20 [.tree (.agg (kT b g l s 7)), .tree (.agg (kT b g l s 8))] = some (.tree (.bool false), [[], []]) := by kernel_rfl
theorem cK_8_0 : evalFn Tryd.prog cfg0 100000 14 22 [.tree (.agg (kT b g l s 8)), .tree (.agg (kT b g l s 0))] = some (.tree (.int .i64 (1)), [[], []]) := by kernel_rfl
theorem sK_8_0 : evalFn Tryd.prog cfg0 100000 14 20 [.tree (.agg (kT b g l s 8)), .tree (.agg (kT b g l s 0))] = some (.tree (.bool false), [[], []]) := by kernel_rfl
theorem cK_8_1 : evalFn Tryd.prog cfg0 100000 14 22 [.tree (.agg (kT b g l s 8)), .tree (.agg (kT b g l s 1))] = some (.tree (.int .i64 (1)), [[], []]) := by kernel_rfl
theorem sK_8_1 : evalFn Tryd.prog cfg0 100000 14 20 [.tree (.agg (kT b g l s 8)), .tree (.agg (kT b g l s 1))] = some (.tree (.bool false), [[], []]) := by kernel_rfl
theorem cK_8_2 : evalFn Tryd.prog cfg0 100000 14 22 [.tree (.agg (kT b g l s 8)), .tree (.agg (kT b g l s 2))] = some (.tree (.int .i64 (1)), [[], []]) := by kernel_rfl
theorem sK_8_2 : evalFn Tryd.prog cfg0 100000 14 20 [.tree (.agg (kT b g l s 8)), .tree (.agg (kT b g l s 2))] = some (.tree (.bool false), [[], []]) := by kernel_rfl
theorem cK_8_3 : evalFn Tryd.prog cfg0 100000 14 22 [.tree (.agg (kT b g l s 8)), .tree (.agg (kT b g l s 3))] = some (.tree (.int .i64 (1)), [[], []]) := by kernel_rfl
theorem sK_8_3 : evalFn Tryd.prog cfg0 100000 14 20 [.tree (.agg (kT b g l s 8)), .tree (.agg (kT b g l s 3))] = some (.tree (.bool false), [[], []]) := by kernel_rfl
theorem cK_8_4 : evalFn Tryd.prog cfg0 100000 14 22 [.tree (.agg (kT b g l s 8)), .tree (.agg (kT b g l s 4))] = some (.tree (.int .i64 (1)), [[], []]) := by kernel_rfl
theorem sK_8_4 : evalFn Tryd.prog cfg0 100000 14 20 [.tree (.agg (kT b g l s 8)), .tree (.agg (kT b g l s 4))] = some (.tree (.bool false), [[], []]) := by kernel_rfl
theorem cK_8_5 : evalFn Tryd.prog cfg0 100000 14 22 [.tree (.agg (kT b g l s 8)), .tree (.agg (kT b g l s 5))] = some (.tree (.int .i64 (1)), [[], []]) := by kernel_rfl
theorem sK_8_5 : evalFn Tryd.prog cfg0 100000 14 20 [.tree (.agg (kT b g l s 8)), .tree (.agg (kT b g l s 5))] = some (.tree (.bool false), [[], []]) := by kernel_rfl
theorem cK_8_6 : evalFn Tryd.prog cfg0 100000 14 22 [.tree (.agg (kT b g l s 8)), .tree (.agg (kT b g l s 6))] = some (.tree (.int .i64 (1)), [[], []]) := by kernel_rfl
theorem sK_8_6 : evalFn Tryd.prog cfg0 100000 14 20 [.tree (.agg (kT b g l s 8)), .tree (.agg (kT b g l s 6))] = some (.tree (.bool false), [[], []]) := by kernel_rfl
theorem cK_8_7 : evalFn Tryd.prog cfg0 100000 14 22 [.tree (.agg (kT b g l s 8)), .tree (.agg (kT b g l s 7))] = some (.tree (.int .i64 (1)), [[], []]) := by kernel_rfl
theorem sK_8_7 : evalFn Tryd.prog cfg0 100000 14 20 [.tree (.agg (kT b g l s 8)), .tree (.agg (kT b g l s 7))] = some (.tree (.bool false), [[], []]) := by kernel_rfl
theorem cK_8_8 : evalFn Tryd.prog cfg0 100000 14 22 [.tree (.agg (kT b g l s 8)), .tree (.agg (kT b g l s 8))] = some (.tree (.int .i64 (0)), [[], []]) := by kernel_rfl
theorem sK_8_8 : evalFn Tryd.prog cfg0 100000 14 20 [.tree (.agg (kT b g l s 8)), .tree (.agg (kT b g l s 8))] = some (.tree (.bool true), [[], []]) := by kernel_rfl
end
end Go.Ab
