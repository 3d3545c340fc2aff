/- Op, any op: the program's and the reference's give the same number. Conditions: numbers that are shown. -/
import Derived.Test.YtdibanolokkniaaDoorAbnAR
import Derived.Test.YtdibanolokkniaaDoorAbnA11
namespace Go.Ab
open Go.Proofs
set_option maxRecDepth 100000
set_option linter.unusedSimpArgs false

/-- What an op gives: the number, and whether there is one. -/
def opR (op a b : Int) : Int × Bool :=
  if op = 1 then mkZ (a + b) else if op = 2 then mkZ (a - b) else if op = 3 then mkZ (a * b)
  else if op = 4 then (if b = 0 then (0, false) else mkZ (a.tdiv b)) else if op = 5 then (if b = 0 then (0, false) else mkZ (a.tmod b))
  else if op = 6 then mkZ (logZ 6 a b) else if op = 7 then mkZ (logZ 7 a b) else if op = 8 then mkZ (logZ 8 a b)
  else if op = 9 then mkZ (shZ a b) else if op = 10 then mkZ (shZ a (-b)) else (0, false)
theorem opR_lt (op a b : Int) : (opR op a b).1.natAbs < B ^ 12 := by
  have h0 : (0 : Int).natAbs < B ^ 12 := Nat.pow_pos (by decide)
  unfold opR
  (repeat' split) <;> first | exact mkZ_lt _ | exact h0
def tupZ (r : Int × Bool) : AV := .tup [encZ r.1, .bool r.2]
def tupF (g : Gk) (r : Int × Bool) : AV := .tup [canA g r.1, .bool r.2]
theorem tupZ_made (z : Int) : madeV z = tupZ (mkZ z) := rfl
theorem tupF_made (z : Int) : madeF z = tupF (gm z) (mkZ z) := rfl
theorem tupZ_0 : (.tup [encZ 0, .bool false] : AV) = tupZ (0, false) := rfl
theorem tupF_0 : (.tup [encA false .n [], .bool false] : AV) = tupF .n (0, false) := by simp [tupF, canA, digs_0]
theorem op_cases (op : Int) : op = 1 ∨ op = 2 ∨ op = 3 ∨ op = 4 ∨ op = 5 ∨ op = 6 ∨ op = 7 ∨ op = 8 ∨ op = 9 ∨ op = 10 ∨ (op < 1 ∨ 10 < op) := by omega
section
variable (n d : Nat) (hn : 100000 ≤ n) {w w' : AV} {z z' : Int} (hw : IsN w z) (hw' : IsN w' z')
include hn hw hw'
set_option maxHeartbeats 8000000
omit hn in
theorem op_none' (op : Int) (ho : op < 1 ∨ 10 < op) : evalFn Tryd.prog cfg0 n (d+6) 14 [.tree (.int .i64 op), .tree w, .tree w'] = some (.tree (.tup [encZ 0, .bool false]), [[], [], []]) := by
  obtain ⟨g, c1⟩ := qOf n (d + 3) hw
  obtain ⟨g', c2⟩ := qOf n (d + 3) hw'
  have hlt := hw.lt
  have hlt' := hw'.lt
  obtain ⟨neg, g0, l, rfl, hl, hz⟩ := hw
  obtain ⟨neg', g0', l', rfl, hl', hz'⟩ := hw'
  rw [evalFn_go _ Tryd.func14 (by unfold Tryd.f14; rfl) (by unfold Tryd.f14; decide) (Nat.le_of_ble_eq_true (by unfold Tryd.f14; rfl)) (by kernel_rfl)]
  have e1 : (op == 1) = false := by rw [beq_eq_false_iff_ne]; omega
  have e2 : (op == 2) = false := by rw [beq_eq_false_iff_ne]; omega
  have e3 : (op == 3) = false := by rw [beq_eq_false_iff_ne]; omega
  have e4 : (op == 4) = false := by rw [beq_eq_false_iff_ne]; omega
  have e5 : (op == 5) = false := by rw [beq_eq_false_iff_ne]; omega
  have e6 : (op == 6) = false := by rw [beq_eq_false_iff_ne]; omega
  have e7 : (op == 7) = false := by rw [beq_eq_false_iff_ne]; omega
  have e8 : (op == 8) = false := by rw [beq_eq_false_iff_ne]; omega
  have e9 : (op == 9) = false := by rw [beq_eq_false_iff_ne]; omega
  have e10 : (op == 10) = false := by rw [beq_eq_false_iff_ne]; omega
  simp only [zaa, zab, zac, zad, zae, zaf, zag, zah, zai, zaj, zak, zal, zam, zan, zao, zap, zaq, zar, zas, zat, zau, zav, zaw, zax, zay, zaz, zba, zbb, zbc, zbd, zbe, zbf, zbg, zbh, zbi, zbj, Nat.reduceBEq, Bool.or_self, Bool.or_false, Bool.or_true, Bool.and_true, Bool.and_false, Bool.true_and, Bool.false_and, Option.isNone_none, Option.isNone_some, Option.isSome_some, Option.isSome_none, zbk, zbl, zbm, zbn, zbo, zbp, zbq, zbr, zbs, zbt, zbu, zbv, zbw, zbx, zby, zbz, zca, zcb, zcc, zcd, zce, zcf, zcg, zch, zci, zcj, zck, zcl, zcm, zcn, zco, zcp, zcq, zcr, zcs, zct, zcu, zcv, zcw, zcx, zcy, zcz, zda, zdb, zdc, zdd, zde, zdf, Option.getD_some, Option.getD_none, zet, zeu, zev, zew, zex, zey, zez, zfa, Option.map_some, Option.map_none, Option.bind_some, List.map_cons, List.map_nil, List.cons_append, List.nil_append, ↓reduceIte, Nat.reduceEqDiff, Nat.reduceAdd, decide_true, decide_false, Bool.true_eq_false, Bool.false_eq_true, env0, List.getElem?_cons_zero, List.getElem?_cons_succ, zdg, zdh, zdi, zdj, zdk, zdl, zdm, zdn, ia22, ld31, zdo, zdp, zdq, zdr, zds, zdt, zdu, zdv, zdw, zdx, zdy, zdz, zea, zeb, zec, fa_0, fa_1, zed, bd_0, bd_2, zee, fd_1, zef, Nat.zero_add, st0_3', c1, c2, e1, e2, e3, e4, e5, e6, e7, e8, e9, e10]
  exact finish_ct _ _ 6 6 1 _ _ _ _ _ _ _ (by simp only [zfa, ↓reduceIte, Nat.reduceEqDiff]) (by simp only [zfa, ↓reduceIte, Nat.reduceEqDiff]; rw [show encR (Int.natAbs 0) = encL .n [] by simp [encR, digs_0]]; rfl) (by simp only [zfa, ↓reduceIte, Nat.reduceEqDiff]) rfl
theorem opN_any (op : Int) : evalFn Tryd.prog cfg0 n (d+7) 14 [.tree (.int .i64 op), .tree w, .tree w'] = some (.tree (tupZ (opR op z z')), [[], [], []]) := by
  rcases op_cases op with rfl | rfl | rfl | rfl | rfl | rfl | rfl | rfl | rfl | rfl | ho
  · exact op1_eq n (d + 1) hn hw hw'
  · exact op2_eq n (d + 1) hn hw hw'
  · exact op3_eq n (d + 1) hn hw hw'
  · have := op4_eq n (d + 1) hn hw hw'
    by_cases h0 : z' = 0
    · rw [if_pos h0] at this
      rw [show opR 4 z z' = (0, false) from if_pos h0]; exact this
    · rw [if_neg h0] at this
      rw [show opR 4 z z' = mkZ (z.tdiv z') from if_neg h0]; exact this
  · have := op5_eq n (d + 1) hn hw hw'
    by_cases h0 : z' = 0
    · rw [if_pos h0] at this
      rw [show opR 5 z z' = (0, false) from if_pos h0]; exact this
    · rw [if_neg h0] at this
      rw [show opR 5 z z' = mkZ (z.tmod z') from if_neg h0]; exact this
  · exact op6_eq n d hn hw hw'
  · exact op7_eq n d hn hw hw'
  · exact op8_eq n d hn hw hw'
  · exact op9_eq n (d + 1) hn hw hw'
  · exact op10_eq n (d + 1) hn hw hw'
  · have hr : opR op z z' = (0, false) := by unfold opR; (repeat' rw [if_neg (by omega)])
    rw [hr]
    exact op_none' n (d + 1) hw hw' op ho
theorem opF_any (op : Int) : ∃ g, evalFn Tryd.prog cfg0 n (d+6) 25 [.tree (.int .i64 op), .tree w, .tree w'] = some (.tree (tupF g (opR op z z')), [[], [], []]) := by
  rcases op_cases op with rfl | rfl | rfl | rfl | rfl | rfl | rfl | rfl | rfl | rfl | ho
  · exact ⟨_, rop1_eq n d hn hw hw'⟩
  · exact ⟨_, rop2_eq n d hn hw hw'⟩
  · exact ⟨_, rop3_eq n d hn hw hw'⟩
  · have := rop4_eq n d hn hw hw'
    by_cases h0 : z' = 0
    · rw [if_pos h0, tupF_0] at this
      rw [show opR 4 z z' = (0, false) from if_pos h0]; exact ⟨_, this⟩
    · rw [if_neg h0] at this
      rw [show opR 4 z z' = mkZ (z.tdiv z') from if_neg h0]; exact ⟨_, this⟩
  · have := rop5_eq n d hn hw hw'
    by_cases h0 : z' = 0
    · rw [if_pos h0, tupF_0] at this
      rw [show opR 5 z z' = (0, false) from if_pos h0]; exact ⟨_, this⟩
    · rw [if_neg h0] at this
      rw [show opR 5 z z' = mkZ (z.tmod z') from if_neg h0]; exact ⟨_, this⟩
  · exact ⟨_, rop6_eq n d hn hw hw'⟩
  · exact ⟨_, rop7_eq n d hn hw hw'⟩
  · exact ⟨_, rop8_eq n d hn hw hw'⟩
  · exact ⟨_, rop9_eq n d hn hw hw'⟩
  · exact ⟨_, rop10_eq n d hn hw hw'⟩
  · have hr : opR op z z' = (0, false) := by unfold opR; (repeat' rw [if_neg (by omega)])
    have := rop_none n d hw hw' op ho
    rw [tupF_0] at this
    rw [hr]; exact ⟨_, this⟩
end
end Go.Ab
