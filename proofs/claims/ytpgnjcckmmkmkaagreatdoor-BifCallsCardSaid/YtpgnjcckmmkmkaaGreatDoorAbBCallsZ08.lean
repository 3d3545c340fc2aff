/- Several texts put together: AbzV2, AbzV3, AbzV4, AbzV5, AbzV6, AbzX5, AbzV7, AbzV8, AbzV9. Conditions: as each part says. -/
import Derived.Test.YtpgnjcckmmkmkaaGreatDoorAbBCallsZ07
import Derived.Test.YtpgnjcckmmkmkaaGreatDoorAbBCallsZ06
/- bif.Has, relictref19.Has of any strings: the same. Conditions: lengths in range. -/
namespace Go.Ab
open Go.Proofs
set_option maxRecDepth 100000
set_option linter.unusedSimpArgs false

def hasW (m s : List UInt8) (k : Int) : Bool := if m = erlW then decide (0 < k) && (arE s == k) else if m = lisW then decide (0 < k) && (arL s == k) else false
theorem has_e (s : List UInt8) (k : Int) : hasW erlW s k = (decide (0 < k) && (arE s == k)) := if_pos rfl
theorem has_l (s : List UInt8) (k : Int) : hasW lisW s k = (decide (0 < k) && (arL s == k)) := by unfold hasW; rw [if_neg (by decide), if_pos rfl]
theorem has_n (m s : List UInt8) (k : Int) (h1 : m ≠ erlW) (h2 : m ≠ lisW) : hasW m s k = false := by unfold hasW; rw [if_neg h1, if_neg h2]
theorem ite_ne0 (c : Bool) (a b : Int) (ha : (a == 0) = false) (hb : (b == 0) = false) : ((if c = true then a else b) == 0) = false := by
  cases c with
  | true => exact ha
  | false => exact hb
theorem arE_0 (s : List UInt8) : (arE s == 0) = false := by
  unfold arE
  repeat' (first | apply ite_ne0 | rfl)
theorem arL_0 (s : List UInt8) : (arL s == 0) = false := by
  unfold arL
  repeat' (first | apply ite_ne0 | rfl)
set_option maxHeartbeats 8000000 in
theorem bhas_eq (R d : Nat) (hR : 100000 ≤ R) (hd : 20 ≤ d) (m s : List UInt8) (k : Int) (hs : s.length ≤ 9000000000000000000) : evalFn Tryz.prog cfg0 R (d+1) 12 [.tree (.str m), .tree (.str s), .tree (.int .i64 k)] = some (.tree (.bool (hasW m s k)), [[], [], []]) := by
  rw [evalFn_go _ Tryz.func12 (by unfold Tryz.f12; rfl) (by unfold Tryz.f12; decide) (Nat.le_of_ble_eq_true (by unfold Tryz.f12; rfl)) (by kernel_rfl)]
  by_cases h1 : m = erlW
  · subst h1
    rw [has_e]
    have w1 : (erlW == ([101, 114, 108, 97, 110, 103] : List UInt8)) = true := by decide
    have ca := fun D st => callA_trees (cfg := cfg0) (d := D) (s := st) (f := 40) (vs := [.str erlW, .str s]) rfl (bar_eq R d hR hd s hs)
    by_cases h2 : k > 0
    · rw [decide_eq_true (show 0 < k from h2), Bool.true_and]
      simp only [simB, zbo, Nat.reduceBEq, own0, ↓reduceIte, Nat.reduceEqDiff, Nat.reduceAdd, simA, simL, simN, Nat.zero_add, zev, List.toList_toArray, len9, ix9, zew, zex, zey, zez, zfa, s_eqlS, w1, h2, ca, i_eqlV]
      exact finish_b _ _ _ _ _ _ _ (by simp only [zfp, ↓reduceIte, Nat.reduceEqDiff]; try rfl) rfl
    · rw [decide_eq_false (show ¬ 0 < k from h2), Bool.false_and]
      simp only [simB, zbo, Nat.reduceBEq, own0, ↓reduceIte, Nat.reduceEqDiff, Nat.reduceAdd, simA, simL, simN, Nat.zero_add, zev, List.toList_toArray, len9, ix9, zew, zex, zey, zez, zfa, s_eqlS, w1, h2]
      exact finish_b _ _ _ _ _ _ _ (by simp only [zfp, ↓reduceIte, Nat.reduceEqDiff]; try rfl) rfl
  have w1 : (m == ([101, 114, 108, 97, 110, 103] : List UInt8)) = false := beq_eq_false_iff_ne.mpr h1
  by_cases h3 : m = lisW
  · subst h3
    rw [has_l]
    have w2 : (lisW == ([108, 105, 115, 116, 115] : List UInt8)) = true := by decide
    have ca := fun D st => callA_trees (cfg := cfg0) (d := D) (s := st) (f := 40) (vs := [.str lisW, .str s]) rfl (bal_eq R d hR hd s hs)
    by_cases h2 : k > 0
    · rw [decide_eq_true (show 0 < k from h2), Bool.true_and]
      simp only [simB, zbo, Nat.reduceBEq, own0, ↓reduceIte, Nat.reduceEqDiff, Nat.reduceAdd, simA, simL, simN, Nat.zero_add, zev, List.toList_toArray, len9, ix9, zew, zex, zey, zez, zfa, s_eqlS, w1, w2, h2, ca, i_eqlV]
      exact finish_b _ _ _ _ _ _ _ (by simp only [zfp, ↓reduceIte, Nat.reduceEqDiff]; try rfl) rfl
    · rw [decide_eq_false (show ¬ 0 < k from h2), Bool.false_and]
      simp only [simB, zbo, Nat.reduceBEq, own0, ↓reduceIte, Nat.reduceEqDiff, Nat.reduceAdd, simA, simL, simN, Nat.zero_add, zev, List.toList_toArray, len9, ix9, zew, zex, zey, zez, zfa, s_eqlS, w1, w2, h2]
      exact finish_b _ _ _ _ _ _ _ (by simp only [zfp, ↓reduceIte, Nat.reduceEqDiff]; try rfl) rfl
  have w2 : (m == ([108, 105, 115, 116, 115] : List UInt8)) = false := beq_eq_false_iff_ne.mpr h3
  rw [has_n m s k h1 h3]
  simp only [simB, zbo, Nat.reduceBEq, own0, ↓reduceIte, Nat.reduceEqDiff, Nat.reduceAdd, simA, simL, simN, Nat.zero_add, zev, List.toList_toArray, len9, ix9, zew, zex, zey, zez, zfa, s_eqlS, w1, w2]
  exact finish_b _ _ _ _ _ _ _ (by simp only [zfp, ↓reduceIte, Nat.reduceEqDiff]; try rfl) rfl
set_option maxHeartbeats 8000000 in
theorem rhas_eq (R d : Nat) (hR : 100000 ≤ R) (hd : 20 ≤ d) (m s : List UInt8) (k : Int) : evalFn Tryz.prog cfg0 R (d+1) 13 [.tree (.str m), .tree (.str s), .tree (.int .i64 k)] = some (.tree (.bool (hasW m s k)), [[], [], []]) := by
  rw [evalFn_go _ Tryz.func13 (by unfold Tryz.f13; rfl) (by unfold Tryz.f13; decide) (Nat.le_of_ble_eq_true (by unfold Tryz.f13; rfl)) (by kernel_rfl)]
  have key : ∀ a : Int, (a == 0) = false → k ≥ 0 → (a == k) = (decide (0 < k) && (a == k)) := fun a ha hk => by
    by_cases h : 0 < k
    · rw [decide_eq_true h, Bool.true_and]
    · have : k = 0 := by omega
      subst this
      rw [ha, Bool.and_false]
  by_cases h1 : m = erlW
  · subst h1
    rw [has_e]
    have w1 : (erlW == ([101, 114, 108, 97, 110, 103] : List UInt8)) = true := by decide
    have ca := fun D st => callA_trees (cfg := cfg0) (d := D) (s := st) (f := 41) (vs := [.str erlW, .str s]) rfl (rar_eq R d hR hd s)
    by_cases h2 : k ≥ 0
    · rw [← key _ (arE_0 s) h2]
      simp only [simB, zbo, Nat.reduceBEq, own0, ↓reduceIte, Nat.reduceEqDiff, Nat.reduceAdd, simA, simL, simN, Nat.zero_add, zev, List.toList_toArray, len9, ix9, zew, zex, zey, zez, zfa, s_eqlS, w1, h2, ca, i_eqlV]
      exact finish_b _ _ _ _ _ _ _ (by simp only [zfp, ↓reduceIte, Nat.reduceEqDiff]; try rfl) rfl
    · rw [decide_eq_false (show ¬ 0 < k by omega), Bool.false_and]
      simp only [simB, zbo, Nat.reduceBEq, own0, ↓reduceIte, Nat.reduceEqDiff, Nat.reduceAdd, simA, simL, simN, Nat.zero_add, zev, List.toList_toArray, len9, ix9, zew, zex, zey, zez, zfa, s_eqlS, w1, h2]
      exact finish_b _ _ _ _ _ _ _ (by simp only [zfp, ↓reduceIte, Nat.reduceEqDiff]; try rfl) rfl
  have w1 : (m == ([101, 114, 108, 97, 110, 103] : List UInt8)) = false := beq_eq_false_iff_ne.mpr h1
  by_cases h3 : m = lisW
  · subst h3
    rw [has_l]
    have w2 : (lisW == ([108, 105, 115, 116, 115] : List UInt8)) = true := by decide
    have ca := fun D st => callA_trees (cfg := cfg0) (d := D) (s := st) (f := 41) (vs := [.str lisW, .str s]) rfl (ral_eq R d hR hd s)
    by_cases h2 : k ≥ 0
    · rw [← key _ (arL_0 s) h2]
      simp only [simB, zbo, Nat.reduceBEq, own0, ↓reduceIte, Nat.reduceEqDiff, Nat.reduceAdd, simA, simL, simN, Nat.zero_add, zev, List.toList_toArray, len9, ix9, zew, zex, zey, zez, zfa, s_eqlS, w1, w2, h2, ca, i_eqlV]
      exact finish_b _ _ _ _ _ _ _ (by simp only [zfp, ↓reduceIte, Nat.reduceEqDiff]; try rfl) rfl
    · rw [decide_eq_false (show ¬ 0 < k by omega), Bool.false_and]
      simp only [simB, zbo, Nat.reduceBEq, own0, ↓reduceIte, Nat.reduceEqDiff, Nat.reduceAdd, simA, simL, simN, Nat.zero_add, zev, List.toList_toArray, len9, ix9, zew, zex, zey, zez, zfa, s_eqlS, w1, w2, h2]
      exact finish_b _ _ _ _ _ _ _ (by simp only [zfp, ↓reduceIte, Nat.reduceEqDiff]; try rfl) rfl
  have w2 : (m == ([108, 105, 115, 116, 115] : List UInt8)) = false := beq_eq_false_iff_ne.mpr h3
  rw [has_n m s k h1 h3]
  simp only [simB, zbo, Nat.reduceBEq, own0, ↓reduceIte, Nat.reduceEqDiff, Nat.reduceAdd, simA, simL, simN, Nat.zero_add, zev, List.toList_toArray, len9, ix9, zew, zex, zey, zez, zfa, s_eqlS, w1, w2]
  exact finish_b _ _ _ _ _ _ _ (by simp only [zfp, ↓reduceIte, Nat.reduceEqDiff]; try rfl) rfl
end Go.Ab

/- bif.Call by what bif.answer answers (CFG4). Conditions: so many nodes at most. -/
namespace Go.Ab
open Go.Proofs
set_option maxRecDepth 100000
set_option linter.unusedSimpArgs false

def gotoV (x : Option Out) : AV → Option Out
  | .rptr _ => x
  | _ => none
theorem den_gotoV {P : Program} {cfg : Cfg} {call : FuncId → List Arg → Option Out} {n : Nat} (t : Nat) (K : Kont) (env : Env) (s : St) : den P cfg call n (.goto t) K env s = gotoV (K .normal env s) (env t) := by
  simp only [den]; cases env t <;> rfl
theorem gotoV_r (x : Option Out) (xs : List AV) : gotoV x (.rptr xs) = x := rfl
def sUndefW : List UInt8 := [117, 110, 100, 101, 102]
theorem okTreeW (us : List T) (g : Grip) (hg : g.isTok = false) : isTree (.sl (cellsK us) us.length g) = true := by cases g <;> first | rfl | cases hg
theorem opA_three64W (call : FuncId → List Arg → Option Out) (q : Bool) (d : Option Tmp) (ty : TypeId) (pos : String) (af : Array Edge) (g : Option (Nat × Bool)) (t : Nat) (env : Env) (s : St) (x1 x2 x3 : Operand) :
    opA Tryz.prog cfg4 call q ⟨d, .buildSlice 59 3 #[(0, x1), (1, x2), (2, x3)], ty, pos, af, g⟩ t env s = (three64 (ev env x1) (ev env x2) (ev env x3)).map (·, s) := by
  rw [opA_bs]
  simp only [tk64, esz9, zero9, Option.bind_some, List.map_cons, List.map_nil]
  rfl
theorem bdE_g (x : List UInt8) (r : T) : buildA Tryz.prog 31 [(0, .str x), (1, .agg (cellsT r))] = some (.agg (.str x :: cellsT r)) := by
  obtain ⟨k, b, lg, l, s, m, kg, ks⟩ := r
  simp only [buildA, zeroE, tkE, plE, Option.bind_some, cellsT]
  cases lg <;> cases kg <;> rfl
def errG (x : List UInt8) (r : T) : List AV := .str x :: cellsT r
theorem errG_len (x : List UInt8) (r : T) : (errG x r).length = 7 := by simp only [errG, List.length_cons, cellsT_len]
theorem bdE_gg (x : List UInt8) (r : T) : buildA Tryz.prog 31 [(0, .str x), (1, .agg (cellsT r))] = some (.agg (errG x r)) := bdE_g x r
theorem st_EG (s : St) (p k : Nat) (x : List UInt8) (r : T) : storeA Tryz.prog 31 s (.ptr p k 0) (.agg (errG x r)) = stT (s p) p k s (errG x r) := st_Eg _ _ _ _ (errG_len x r)
theorem stE_G (t k p : Nat) (s : St) (x : List UInt8) (r : T) : stT ⟨t, .buf zErr⟩ p k s (errG x r) = if t = k then some (upd s p ⟨t, .buf (errG x r)⟩) else none := by
  have h := errG_len x r
  have h3 : splice zErr 0 (errG x r) = errG x r := by
    simp only [splice, List.take_zero, List.nil_append, Nat.zero_add, h]
    rw [List.drop_eq_nil_of_le (by simp [zErr]), List.append_nil]
  have h4 : zErr.length = 7 := rfl
  simp only [stT, h, h4, Nat.le_refl, ↓reduceIte, h3]
section
variable (n d : Nat) (m s : List UInt8) (us : List T) (g : Grip) (hg : g.isTok = false) (hs : s.length ≤ 9000000000000000000)
include hg hs
omit hg in
set_option maxHeartbeats 8000000 in
theorem callU_undef (hh : hasW m s us.length = false) : evalFn Tryz.prog cfg4 n (d+2) 8 [.tree (.str m), .tree (.str s), .tree (.sl (cellsK us) us.length g)] = some (.tree (.tup [encT T0, .agg (errG sErrW (atomT sUndefW)), .bool false]), [[], [], []]) := by
  have h1 := bhas_eq 9223372036854775808 6189 (by decide) (by decide) m s (us.length : Int) hs
  rw [hh] at h1
  have c1 := fun D st => callA_trees (cfg := cfg4) (d := D) (s := st) (f := 12) (vs := [.str m, .str s, .int .i64 (us.length : Int)]) rfl (ev4 (n := n) (d := d) rfl rfl h1)
  have c4 := fun D st => callA_trees (cfg := cfg4) (d := D) (s := st) (f := 29) (vs := [.str sUndefW]) rfl (ev4 (n := n) (d := d) rfl rfl (atom_eq 9223372036854775808 6189 sUndefW))
  rw [evalFn_goP _ Tryz.func8 (by unfold Tryz.f8; rfl) (by unfold Tryz.f8; decide) (Nat.le_of_ble_eq_true (by unfold Tryz.f8; rfl)) (by kernel_rfl)]
  simp only [encT] at c4
  simp only [sUndefW] at c4
  have b2 := bdE_gg sErrW (atomT sUndefW)
  have hst := fun st p k => st_EG st p k sErrW (atomT sUndefW)
  have hst2 := fun t k p st => stE_G t k p st sErrW (atomT sUndefW)
  simp only [sErrW, sUndefW] at b2 hst hst2
  simp only [simP, simB, keep4, Nat.reduceBEq, own4, String.reduceAppend, String.reduceBEq, Bool.or_false, Bool.or_true, Bool.or_self, ↓reduceIte, Nat.reduceEqDiff, Nat.reduceAdd, simA, simL, simN, Nat.zero_add, zev, List.toList_toArray, len9, ix9, zew, zex, zey, zez, zfa, zeroT, zeroE, lenTk, c1, c4, unA_not', Bool.not_true, Bool.not_false, zds, ldT_u, bdT_00, b2, st_Tt, stT_6, hst, hst2]
  exact finish_T3g _ _ _ _ _ T0 _ _ _ _ _ _ _ _ (errG sErrW (atomT sUndefW)) rfl (by simp only [zfp, ↓reduceIte, Nat.reduceEqDiff]; try rfl) (by simp only [zfp, ↓reduceIte, Nat.reduceEqDiff]; try rfl) (by simp only [zfp, ↓reduceIte, Nat.reduceEqDiff]; try rfl) (by simp only [zfp, ↓reduceIte, Nat.reduceEqDiff]; try rfl) (by simp only [zfp, ↓reduceIte, Nat.reduceEqDiff]; try rfl) rfl
omit hg in
set_option maxHeartbeats 8000000 in
theorem callU_thrown (t : T) (r : List T) (hm : m = erlW) (hus : us = t :: r) (hh : hasW m s us.length = true) (hc : evalFn Tryz.prog cfg0 100000 20 33 [.tree (.sl throws 3 .tight), .tree (.str s)] = some (.tree (.bool true), [[], []])) : evalFn Tryz.prog cfg4 n (d+2) 8 [.tree (.str m), .tree (.str s), .tree (.sl (cellsK us) us.length g)] = some (.tree (.tup [encT T0, .agg (errG s t), .bool false]), [[], [], []]) := by
  have h1 := bhas_eq 9223372036854775808 6189 (by decide) (by decide) m s (us.length : Int) hs
  rw [hh] at h1
  have c1 := fun D st => callA_trees (cfg := cfg4) (d := D) (s := st) (f := 12) (vs := [.str m, .str s, .int .i64 (us.length : Int)]) rfl (ev4 (n := n) (d := d) rfl rfl h1)
  have c2 := fun D st => callA_trees (cfg := cfg4) (d := D) (s := st) (f := 33) (vs := [.sl throws 3 .tight, .str s]) rfl (ev4 (n := n) (d := d) rfl rfl (evalFn_mono (by decide) 20 6190 (by decide) _ _ _ hc))
  have ia : ∀ st : St, indexAddrA Tryz.prog 22 st (.sl (cellsK (t :: r)) (t :: r).length g) (.int .i64 0) = some (.rptr (cellsK (t :: r))) := fun st => ia_K st (t :: r) g 0 (Nat.zero_lt_succ _)
  have ld := fun st => ld_KW st t r
  have w5 : (m == ([101, 114, 108, 97, 110, 103] : List UInt8)) = true := by rw [hm]; decide
  rw [evalFn_goP _ Tryz.func8 (by unfold Tryz.f8; rfl) (by unfold Tryz.f8; decide) (Nat.le_of_ble_eq_true (by unfold Tryz.f8; rfl)) (by kernel_rfl)]
  simp only [throws] at c2
  rw [hus] at c1 ⊢
  simp only [simP, simB, keep4, Nat.reduceBEq, own4, String.reduceAppend, String.reduceBEq, Bool.or_false, Bool.or_true, Bool.or_self, ↓reduceIte, Nat.reduceEqDiff, Nat.reduceAdd, simA, simL, simN, Nat.zero_add, zev, List.toList_toArray, len9, ix9, zew, zex, zey, zez, zfa, zeroT, zeroE, lenTk, c1, s_eqlS, w5, opA_three64W, three64_str, c2, unA_not', Bool.not_true, Bool.not_false, ia, ld, bdT_00, bdE_gg, st_Tt, stT_6, st_EG, stE_G]
  rw [prune_L (c := .seq (.goto 30) (.seq (.goto 30) .skip)) (by rfl) (by rfl)]
  simp only [simB, keep4, Nat.reduceBEq, own4, String.reduceAppend, String.reduceBEq, Bool.or_false, Bool.or_true, Bool.or_self, ↓reduceIte, Nat.reduceEqDiff, Nat.reduceAdd, simA, simL, simN, Nat.zero_add, zev, List.toList_toArray, len9, ix9, zew, zex, zey, zez, zfa, den_gotoV, gotoV_r, zeroT, zeroE, lenTk, ia, ld, bdT_00, bdE_gg, st_Tt, stT_6, st_EG, stE_G]
  exact finish_T3g _ _ _ _ _ T0 _ _ _ _ _ _ _ _ (errG s t) (errG_len s t) (by simp only [zfp, ↓reduceIte, Nat.reduceEqDiff]; try rfl) (by simp only [zfp, ↓reduceIte, Nat.reduceEqDiff]; try rfl) (by simp only [zfp, ↓reduceIte, Nat.reduceEqDiff]; try rfl) (by simp only [zfp, ↓reduceIte, Nat.reduceEqDiff]; try rfl) (by simp only [zfp, ↓reduceIte, Nat.reduceEqDiff]; try rfl) rfl
set_option maxHeartbeats 8000000 in
theorem callU_bad (u : T) (hh : hasW m s us.length = true) (hc : m ≠ erlW ∨ evalFn Tryz.prog cfg0 100000 20 33 [.tree (.sl throws 3 .tight), .tree (.str s)] = some (.tree (.bool false), [[], []]))
    (ha : evalFn Tryz.prog cfg4 n (d+1) 34 [.tree (.str s), .tree (.sl (cellsK us) us.length g)] = some (.tree (.tup [encT u, .bool false]), [[], []])) : evalFn Tryz.prog cfg4 n (d+2) 8 [.tree (.str m), .tree (.str s), .tree (.sl (cellsK us) us.length g)] = some (.tree (.tup [encT T0, .agg (errG sErrW (atomT sBad)), .bool false]), [[], [], []]) := by
  have h1 := bhas_eq 9223372036854775808 6189 (by decide) (by decide) m s (us.length : Int) hs
  rw [hh] at h1
  have hT := okTreeW us g hg
  have c1 := fun D st => callA_trees (cfg := cfg4) (d := D) (s := st) (f := 12) (vs := [.str m, .str s, .int .i64 (us.length : Int)]) rfl (ev4 (n := n) (d := d) rfl rfl h1)
  have c3 := fun D st => callA_trees (cfg := cfg4) (d := D) (s := st) (f := 34) (vs := [.str s, .sl (cellsK us) us.length g]) (by simp only [List.all_cons, hT]; rfl) ha
  have c4 := fun D st => callA_trees (cfg := cfg4) (d := D) (s := st) (f := 29) (vs := [.str sBad]) rfl (ev4 (n := n) (d := d) rfl rfl (atom_eq 9223372036854775808 6189 sBad))
  rw [evalFn_goP _ Tryz.func8 (by unfold Tryz.f8; rfl) (by unfold Tryz.f8; decide) (Nat.le_of_ble_eq_true (by unfold Tryz.f8; rfl)) (by kernel_rfl)]
  simp only [encT] at c3 c4
  simp only [sBad] at c4
  have b2 := bdE_gg sErrW (atomT sBad)
  have hst := fun st p k => st_EG st p k sErrW (atomT sBad)
  have hst2 := fun t k p st => stE_G t k p st sErrW (atomT sBad)
  simp only [sErrW, sBad] at b2 hst hst2
  by_cases hm : m = erlW
  · have hc' := hc.resolve_left (fun h => h hm)
    have c2 := fun D st => callA_trees (cfg := cfg4) (d := D) (s := st) (f := 33) (vs := [.sl throws 3 .tight, .str s]) rfl (ev4 (n := n) (d := d) rfl rfl (evalFn_mono (by decide) 20 6190 (by decide) _ _ _ hc'))
    simp only [throws] at c2
    have w5 : (m == ([101, 114, 108, 97, 110, 103] : List UInt8)) = true := by rw [hm]; decide
    simp only [simP, simB, keep4, Nat.reduceBEq, own4, String.reduceAppend, String.reduceBEq, Bool.or_false, Bool.or_true, Bool.or_self, ↓reduceIte, Nat.reduceEqDiff, Nat.reduceAdd, simA, simL, simN, Nat.zero_add, zev, List.toList_toArray, len9, ix9, zew, zex, zey, zez, zfa, zeroT, zeroE, lenTk, c1, s_eqlS, w5, opA_three64W, three64_str, c2, c3, c4, unA_not', Bool.not_true, Bool.not_false, zds, ldT_u, bdT_00, b2, st_Tt, stT_6, hst, hst2]
    exact finish_T3g _ _ _ _ _ T0 _ _ _ _ _ _ _ _ (errG sErrW (atomT sBad)) rfl (by simp only [zfp, ↓reduceIte, Nat.reduceEqDiff]; try rfl) (by simp only [zfp, ↓reduceIte, Nat.reduceEqDiff]; try rfl) (by simp only [zfp, ↓reduceIte, Nat.reduceEqDiff]; try rfl) (by simp only [zfp, ↓reduceIte, Nat.reduceEqDiff]; try rfl) (by simp only [zfp, ↓reduceIte, Nat.reduceEqDiff]; try rfl) rfl
  · have w5 : (m == ([101, 114, 108, 97, 110, 103] : List UInt8)) = false := beq_eq_false_iff_ne.mpr hm
    simp only [simP, simB, keep4, Nat.reduceBEq, own4, String.reduceAppend, String.reduceBEq, Bool.or_false, Bool.or_true, Bool.or_self, ↓reduceIte, Nat.reduceEqDiff, Nat.reduceAdd, simA, simL, simN, Nat.zero_add, zev, List.toList_toArray, len9, ix9, zew, zex, zey, zez, zfa, zeroT, zeroE, lenTk, c1, s_eqlS, w5, opA_three64W, three64_str, c3, c4, unA_not', Bool.not_true, Bool.not_false, zds, ldT_u, bdT_00, b2, st_Tt, stT_6, hst, hst2]
    exact finish_T3g _ _ _ _ _ T0 _ _ _ _ _ _ _ _ (errG sErrW (atomT sBad)) rfl (by simp only [zfp, ↓reduceIte, Nat.reduceEqDiff]; try rfl) (by simp only [zfp, ↓reduceIte, Nat.reduceEqDiff]; try rfl) (by simp only [zfp, ↓reduceIte, Nat.reduceEqDiff]; try rfl) (by simp only [zfp, ↓reduceIte, Nat.reduceEqDiff]; try rfl) (by simp only [zfp, ↓reduceIte, Nat.reduceEqDiff]; try rfl) rfl
set_option maxHeartbeats 8000000 in
theorem callU_ok (u : T) (hn : nodT u ≤ 2000) (hh : hasW m s us.length = true) (hc : m ≠ erlW ∨ evalFn Tryz.prog cfg0 100000 20 33 [.tree (.sl throws 3 .tight), .tree (.str s)] = some (.tree (.bool false), [[], []]))
    (ha : evalFn Tryz.prog cfg4 n (d+1) 34 [.tree (.str s), .tree (.sl (cellsK us) us.length g)] = some (.tree (.tup [encT u, .bool true]), [[], []])) : evalFn Tryz.prog cfg4 n (d+2) 8 [.tree (.str m), .tree (.str s), .tree (.sl (cellsK us) us.length g)] = some (.tree (.tup [encT u, .agg zErr, .bool true]), [[], [], []]) := by
  have h1 := bhas_eq 9223372036854775808 6189 (by decide) (by decide) m s (us.length : Int) hs
  rw [hh] at h1
  have hT := okTreeW us g hg
  have c1 := fun D st => callA_trees (cfg := cfg4) (d := D) (s := st) (f := 12) (vs := [.str m, .str s, .int .i64 (us.length : Int)]) rfl (ev4 (n := n) (d := d) rfl rfl h1)
  have c3 := fun D st => callA_trees (cfg := cfg4) (d := D) (s := st) (f := 34) (vs := [.str s, .sl (cellsK us) us.length g]) (by simp only [List.all_cons, hT]; rfl) ha
  have c4 := fun D st => callA_trees (cfg := cfg4) (d := D) (s := st) (f := 35) (vs := [encT u]) rfl (ev4 (n := n) (d := d) rfl rfl (evalFn_mono (show 1000000 ≤ 9223372036854775808 by decide) 6190 6190 (Nat.le_refl _) _ _ _ (tNodes_eq 1000000 (Nat.le_refl _) 6190 u (by have := ht_nod u; omega) (by omega))))
  rw [evalFn_goP _ Tryz.func8 (by unfold Tryz.f8; rfl) (by unfold Tryz.f8; decide) (Nat.le_of_ble_eq_true (by unfold Tryz.f8; rfl)) (by kernel_rfl)]
  simp only [encT] at c3 c4
  have q1 : ¬ ((nodT u : Int) > 2000) := by omega
  by_cases hm : m = erlW
  · have hc' := hc.resolve_left (fun h => h hm)
    have c2 := fun D st => callA_trees (cfg := cfg4) (d := D) (s := st) (f := 33) (vs := [.sl throws 3 .tight, .str s]) rfl (ev4 (n := n) (d := d) rfl rfl (evalFn_mono (by decide) 20 6190 (by decide) _ _ _ hc'))
    simp only [throws] at c2
    have w5 : (m == ([101, 114, 108, 97, 110, 103] : List UInt8)) = true := by rw [hm]; decide
    simp only [simP, simB, keep4, Nat.reduceBEq, own4, String.reduceAppend, String.reduceBEq, Bool.or_false, Bool.or_true, Bool.or_self, ↓reduceIte, Nat.reduceEqDiff, Nat.reduceAdd, simA, simL, simN, Nat.zero_add, zev, List.toList_toArray, len9, ix9, zew, zex, zey, zez, zfa, zeroT, zeroE, lenTk, c1, s_eqlS, w5, opA_three64W, three64_str, c2, c3, c4, unA_not', Bool.not_true, Bool.not_false, zds, q1, ldT_u, bdE_, st_Tt, stT_6, st_E, stE_z]
    exact finish_T3 _ _ _ _ _ u _ _ _ _ _ _ _ _ (by simp only [zfp, ↓reduceIte, Nat.reduceEqDiff]; try rfl) (by simp only [zfp, ↓reduceIte, Nat.reduceEqDiff]; try rfl) (by simp only [zfp, ↓reduceIte, Nat.reduceEqDiff]; try rfl) (by simp only [zfp, ↓reduceIte, Nat.reduceEqDiff]; try rfl) (by simp only [zfp, ↓reduceIte, Nat.reduceEqDiff]; try rfl) rfl
  · have w5 : (m == ([101, 114, 108, 97, 110, 103] : List UInt8)) = false := beq_eq_false_iff_ne.mpr hm
    simp only [simP, simB, keep4, Nat.reduceBEq, own4, String.reduceAppend, String.reduceBEq, Bool.or_false, Bool.or_true, Bool.or_self, ↓reduceIte, Nat.reduceEqDiff, Nat.reduceAdd, simA, simL, simN, Nat.zero_add, zev, List.toList_toArray, len9, ix9, zew, zex, zey, zez, zfa, zeroT, zeroE, lenTk, c1, s_eqlS, w5, opA_three64W, three64_str, c3, c4, unA_not', Bool.not_true, Bool.not_false, zds, q1, ldT_u, bdE_, st_Tt, stT_6, st_E, stE_z]
    exact finish_T3 _ _ _ _ _ u _ _ _ _ _ _ _ _ (by simp only [zfp, ↓reduceIte, Nat.reduceEqDiff]; try rfl) (by simp only [zfp, ↓reduceIte, Nat.reduceEqDiff]; try rfl) (by simp only [zfp, ↓reduceIte, Nat.reduceEqDiff]; try rfl) (by simp only [zfp, ↓reduceIte, Nat.reduceEqDiff]; try rfl) (by simp only [zfp, ↓reduceIte, Nat.reduceEqDiff]; try rfl) rfl
end
end Go.Ab

/- bif.one of any term, by its name (printed by genones.py). Conditions: lengths in range. -/
namespace Go.Ab
open Go.Proofs
set_option maxRecDepth 100000
set_option linter.unusedSimpArgs false

theorem bidx_hd : evalFn Tryz.prog cfg0 100000 20 61 [.tree (.sl five 5 .tight), .tree (.str w_hd)] = some (.tree (.int .i64 0), [[], []]) := by kernel_rfl
theorem bidx_tl : evalFn Tryz.prog cfg0 100000 20 61 [.tree (.sl five 5 .tight), .tree (.str w_tl)] = some (.tree (.int .i64 1), [[], []]) := by kernel_rfl
theorem bidx_tuple_size : evalFn Tryz.prog cfg0 100000 20 61 [.tree (.sl five 5 .tight), .tree (.str w_tuple_size)] = some (.tree (.int .i64 2), [[], []]) := by kernel_rfl
theorem bidx_byte_size : evalFn Tryz.prog cfg0 100000 20 61 [.tree (.sl five 5 .tight), .tree (.str w_byte_size)] = some (.tree (.int .i64 3), [[], []]) := by kernel_rfl
theorem bidx_length : evalFn Tryz.prog cfg0 100000 20 61 [.tree (.sl five 5 .tight), .tree (.str w_length)] = some (.tree (.int .i64 4), [[], []]) := by kernel_rfl
theorem bidx_list_to_tuple : evalFn Tryz.prog cfg0 100000 20 61 [.tree (.sl five 5 .tight), .tree (.str w_list_to_tuple)] = some (.tree (.int .i64 (-1)), [[], []]) := by kernel_rfl
theorem bidx_tuple_to_list : evalFn Tryz.prog cfg0 100000 20 61 [.tree (.sl five 5 .tight), .tree (.str w_tuple_to_list)] = some (.tree (.int .i64 (-1)), [[], []]) := by kernel_rfl
theorem bidx_integer_to_list : evalFn Tryz.prog cfg0 100000 20 61 [.tree (.sl five 5 .tight), .tree (.str w_integer_to_list)] = some (.tree (.int .i64 (-1)), [[], []]) := by kernel_rfl
theorem bidx_atom_to_list : evalFn Tryz.prog cfg0 100000 20 61 [.tree (.sl five 5 .tight), .tree (.str w_atom_to_list)] = some (.tree (.int .i64 (-1)), [[], []]) := by kernel_rfl
theorem itemsV_tup (o : Option (List T)) : ∃ x b, itemsV o = .tup [x, .bool b] := by
  cases o with
  | none => exact ⟨_, _, rfl⟩
  | some l => exact ⟨_, _, rfl⟩
set_option maxHeartbeats 4000000 in
theorem bone_idx (R d : Nat) (hR : 100000 ≤ R) (hd : 20 ≤ d) (name : List UInt8) (k : Nat) (hk : k ≤ 4) (hn : isRev [.tree (.str name), .tree (.bool true)] = false) (hx : evalFn Tryz.prog cfg0 100000 20 61 [.tree (.sl five 5 .tight), .tree (.str name)] = some (.tree (.int .i64 (k : Int)), [[], []]))
    (t : T) (h1 : nodT t ≤ 1999) (h2 : (kidsT t).length ≤ 1000000) (h3 : (strT t).length ≤ 1000000) : evalFn Tryz.prog cfg0 R (d+1) 62 [.tree (.str name), .tree (encT t)] = some (.tree (.tup [encT (oneT smallT ((k + 1 : Nat) : Int) t).1, .bool (oneT smallT ((k + 1 : Nat) : Int) t).2]), [[], []]) := by
  have hpr : cfg0.prim 62 [.tree (.str name), .tree (encT t)] = none := by
    have hc : cfg0.prim = prim0 := rfl
    rw [hc]
    unfold prim0
    rw [if_neg (by decide), if_neg (by decide), if_neg (by rw [Bool.and_eq_true]; intro h; have := h.2; simp only [isRev] at this hn; rw [hn] at this; cases this)]
  rw [evalFn_go _ Tryz.func62 (by unfold Tryz.f62; rfl) (by unfold Tryz.f62; decide) (Nat.le_of_ble_eq_true (by unfold Tryz.f62; rfl)) (by kernel_rfl) hpr]
  have ci := fun D st => callA_trees (cfg := cfg0) (d := D) (s := st) (f := 61) (vs := [.sl five 5 .tight, .str name]) rfl (evalFn_mono (show 100000 ≤ R by omega) 20 d (by omega) _ _ _ hx)
  simp only [five] at ci
  obtain ⟨d', rfl⟩ : ∃ d', d = d' + 6 := ⟨d - 6, by omega⟩
  have q1 : ((k : Int) ≥ 0) := by omega
  have f5 := i_add Tryz.prog 3 (k : Int) 1 (by omega) (by omega)
  rw [show (k : Int) + 1 = ((k + 1 : Nat) : Int) by omega] at f5
  have ct := fun D st => callA_trees (cfg := cfg0) (d := D) (s := st) (f := 23) (vs := [.int .i64 ((k + 1 : Nat) : Int), encT t]) rfl (oneA_eq R d' hR _ t h1 h2 h3)
  simp only [encT] at ct
  simp only [simB, zbo, Nat.reduceBEq, own0, ↓reduceIte, Nat.reduceEqDiff, Nat.reduceAdd, simA, simL, simN, Nat.zero_add, zev, List.toList_toArray, len9, ix9, zew, zex, zey, zez, zfa, zeroT, encT, opA_five64, five64_str, ci, q1, f5, ldT_u, ct, zds, st_Tt, stT_6]
  exact finish_T2 _ _ _ _ _ (oneT smallT ((k + 1 : Nat) : Int) t).1 _ _ _ _ _ (by simp only [zfp, ↓reduceIte, Nat.reduceEqDiff]; try rfl) (by simp only [zfp, ↓reduceIte, Nat.reduceEqDiff]; try rfl) (by simp only [zfp, ↓reduceIte, Nat.reduceEqDiff]; try rfl) rfl

def l2tT (mk : List T → T) (t : T) : T × Bool := match itemsT t with
  | some us => if us.length ≤ 40 then (mk us, true) else (T0, false)
  | none => (T0, false)
def t2lT (t : T) : T × Bool := if kindT t = 5 then (listT (kidsT t) nilT', true) else (T0, false)
def itlT (g : List UInt8 → List T) (t : T) : T × Bool := if kindT t = 1 then (listT (g (textZ (zOfT t))) nilT', true) else (T0, false)
def atlT (g : List UInt8 → List T) (t : T) : T × Bool := if kindT t = 2 then (listT (g (strT t)) nilT', true) else (T0, false)
theorem l2t_yes (mk : List T → T) (t : T) (us : List T) (h : itemsT t = some us) (hl : us.length ≤ 40) : l2tT mk t = (mk us, true) := by unfold l2tT; rw [h]; exact if_pos hl
theorem l2t_no (mk : List T → T) (t : T) (us : List T) (h : itemsT t = some us) (hl : ¬ us.length ≤ 40) : l2tT mk t = (T0, false) := by unfold l2tT; rw [h]; exact if_neg hl
theorem l2t_none (mk : List T → T) (t : T) (h : itemsT t = none) : l2tT mk t = (T0, false) := by unfold l2tT; rw [h]
theorem t2l_yes (t : T) (h : kindT t = 5) : t2lT t = (listT (kidsT t) nilT', true) := if_pos h
theorem t2l_no (t : T) (h : kindT t ≠ 5) : t2lT t = (T0, false) := if_neg h
theorem itl_yes (g : List UInt8 → List T) (t : T) (h : kindT t = 1) : itlT g t = (listT (g (textZ (zOfT t))) nilT', true) := if_pos h
theorem itl_no (g : List UInt8 → List T) (t : T) (h : kindT t ≠ 1) : itlT g t = (T0, false) := if_neg h
theorem atl_yes (g : List UInt8 → List T) (t : T) (h : kindT t = 2) : atlT g t = (listT (g (strT t)) nilT', true) := if_pos h
theorem atl_no (g : List UInt8 → List T) (t : T) (h : kindT t ≠ 2) : atlT g t = (T0, false) := if_neg h

set_option maxHeartbeats 8000000 in
theorem bone_list_to_tuple (R d : Nat) (hR : 100000 ≤ R) (hd : 20 ≤ d) (t : T) : evalFn Tryz.prog cfg0 R (d+1) 62 [.tree (.str w_list_to_tuple), .tree (encT t)] = some (.tree (.tup [encT (l2tT tupJ t).1, .bool (l2tT tupJ t).2]), [[], []]) := by
  rw [evalFn_go _ Tryz.func62 (by unfold Tryz.f62; rfl) (by unfold Tryz.f62; decide) (Nat.le_of_ble_eq_true (by unfold Tryz.f62; rfl)) (by kernel_rfl)]
  have w0 : (w_list_to_tuple == ([108, 105, 115, 116, 95, 116, 111, 95, 116, 117, 112, 108, 101] : List UInt8)) = true := by decide
  have w1 : (w_list_to_tuple == ([114, 101, 118, 101, 114, 115, 101] : List UInt8)) = false := by decide
  have w2 : (w_list_to_tuple == ([116, 117, 112, 108, 101, 95, 116, 111, 95, 108, 105, 115, 116] : List UInt8)) = false := by decide
  have w3 : (w_list_to_tuple == ([105, 110, 116, 101, 103, 101, 114, 95, 116, 111, 95, 108, 105, 115, 116] : List UInt8)) = false := by decide
  have w4 : (w_list_to_tuple == ([97, 116, 111, 109, 95, 116, 111, 95, 108, 105, 115, 116] : List UInt8)) = false := by decide
  have ci := fun D st => callA_trees (cfg := cfg0) (d := D) (s := st) (f := 61) (vs := [.sl five 5 .tight, .str w_list_to_tuple]) rfl (evalFn_mono (show 100000 ≤ R by omega) 20 d (by omega) _ _ _ bidx_list_to_tuple)
  simp only [five] at ci
  obtain ⟨d', rfl⟩ : ∃ d', d = d' + 6 := ⟨d - 6, by omega⟩
  have ct := fun D st => callA_trees (cfg := cfg0) (d := D) (s := st) (f := 53) (vs := [encT t]) rfl (items_eq R (by omega) (d'+5) t)
  have q1 : ¬ ((-1 : Int) ≥ 0) := by decide
  cases hI : itemsT t with
  | none =>
    rw [hI] at ct
    simp only [encT, itemsV] at ct
    rw [l2t_none tupJ t hI]
    simp only [simB, zbo, Nat.reduceBEq, own0, ↓reduceIte, Nat.reduceEqDiff, Nat.reduceAdd, simA, simL, simN, Nat.zero_add, zev, List.toList_toArray, len9, ix9, zew, zex, zey, zez, zfa, zeroT, encT, opA_five64, five64_str, ci, q1, ct, ldT_u, s_eqlS, w0, w1, w2, w3, w4, lenTk, zds, bdT_00, st_Tt, stT_6]
    exact finish_T2 _ _ _ _ _ (T0) _ _ _ _ _ (by simp only [zfp, ↓reduceIte, Nat.reduceEqDiff]; try rfl) (by simp only [zfp, ↓reduceIte, Nat.reduceEqDiff]; try rfl) (by simp only [zfp, ↓reduceIte, Nat.reduceEqDiff]; try rfl) rfl
  | some us =>
    rw [hI] at ct
    simp only [encT, itemsV] at ct
    by_cases hl : us.length ≤ 40
    · have q2 : (us.length : Int) ≤ 40 := by omega
      rw [l2t_yes tupJ t us hI hl]
      simp only [simB, zbo, Nat.reduceBEq, own0, ↓reduceIte, Nat.reduceEqDiff, Nat.reduceAdd, simA, simL, simN, Nat.zero_add, zev, List.toList_toArray, len9, ix9, zew, zex, zey, zez, zfa, zeroT, encT, opA_five64, five64_str, ci, q1, ct, ldT_u, s_eqlS, w0, w1, w2, w3, w4, lenTk, zds, bdT_00, st_Tt, stT_6, q2, bdT_tup]
      exact finish_T2 _ _ _ _ _ (tupJ us) _ _ _ _ _ (by simp only [zfp, ↓reduceIte, Nat.reduceEqDiff]; try rfl) (by simp only [zfp, ↓reduceIte, Nat.reduceEqDiff]; try rfl) (by simp only [zfp, ↓reduceIte, Nat.reduceEqDiff]; try rfl) rfl
    · have q2 : ¬ (us.length : Int) ≤ 40 := by omega
      rw [l2t_no tupJ t us hI hl]
      simp only [simB, zbo, Nat.reduceBEq, own0, ↓reduceIte, Nat.reduceEqDiff, Nat.reduceAdd, simA, simL, simN, Nat.zero_add, zev, List.toList_toArray, len9, ix9, zew, zex, zey, zez, zfa, zeroT, encT, opA_five64, five64_str, ci, q1, ct, ldT_u, s_eqlS, w0, w1, w2, w3, w4, lenTk, zds, bdT_00, st_Tt, stT_6, q2]
      exact finish_T2 _ _ _ _ _ (T0) _ _ _ _ _ (by simp only [zfp, ↓reduceIte, Nat.reduceEqDiff]; try rfl) (by simp only [zfp, ↓reduceIte, Nat.reduceEqDiff]; try rfl) (by simp only [zfp, ↓reduceIte, Nat.reduceEqDiff]; try rfl) rfl

set_option maxHeartbeats 8000000 in
theorem bone_tuple_to_list (R d : Nat) (hR : 100000 ≤ R) (hd : 20 ≤ d) (t : T) (hl : (kidsT t).length ≤ 1000000) : evalFn Tryz.prog cfg0 R (d+1) 62 [.tree (.str w_tuple_to_list), .tree (encT t)] = some (.tree (.tup [encT (t2lT t).1, .bool (t2lT t).2]), [[], []]) := by
  rw [evalFn_go _ Tryz.func62 (by unfold Tryz.f62; rfl) (by unfold Tryz.f62; decide) (Nat.le_of_ble_eq_true (by unfold Tryz.f62; rfl)) (by kernel_rfl)]
  have w0 : (w_tuple_to_list == ([108, 105, 115, 116, 95, 116, 111, 95, 116, 117, 112, 108, 101] : List UInt8)) = false := by decide
  have w1 : (w_tuple_to_list == ([114, 101, 118, 101, 114, 115, 101] : List UInt8)) = false := by decide
  have w2 : (w_tuple_to_list == ([116, 117, 112, 108, 101, 95, 116, 111, 95, 108, 105, 115, 116] : List UInt8)) = true := by decide
  have w3 : (w_tuple_to_list == ([105, 110, 116, 101, 103, 101, 114, 95, 116, 111, 95, 108, 105, 115, 116] : List UInt8)) = false := by decide
  have w4 : (w_tuple_to_list == ([97, 116, 111, 109, 95, 116, 111, 95, 108, 105, 115, 116] : List UInt8)) = false := by decide
  have ci := fun D st => callA_trees (cfg := cfg0) (d := D) (s := st) (f := 61) (vs := [.sl five 5 .tight, .str w_tuple_to_list]) rfl (evalFn_mono (show 100000 ≤ R by omega) 20 d (by omega) _ _ _ bidx_tuple_to_list)
  simp only [five] at ci
  obtain ⟨d', rfl⟩ : ∃ d', d = d' + 6 := ⟨d - 6, by omega⟩
  have ct := fun D st => callA_trees (cfg := cfg0) (d := D) (s := st) (f := 53) (vs := [encT t]) rfl (items_eq R (by omega) (d'+5) t)
  have q1 : ¬ ((-1 : Int) ≥ 0) := by decide
  obtain ⟨sl, bb, hV⟩ := itemsV_tup (itemsT t)
  rw [hV] at ct
  obtain ⟨k, n1, lg, l, s1, i1, kg, ks⟩ := t
  simp only [encT, cellsT] at ct
  by_cases hk : k = 5
  · subst hk
    have hT := okTreeW ks (gr kg) (by cases kg <;> rfl)
    have ce := callQ_trees (f := 92) (vs := []) rfl (empty_eq R (d'+5))
    have cl := callQ_trees (f := 91) (vs := [.sl (cellsK ks) ks.length (gr kg), encT nilT']) (by simp only [List.all_cons, hT]; rfl) (tList_eq R (d'+5) ks (gr kg) nilT' (by simp only [kidsT] at hl; omega))
    simp only [encT, cellsT] at cl ce
    rw [t2l_yes _ rfl]
    simp only [simB, zbo, Nat.reduceBEq, own0, ↓reduceIte, Nat.reduceEqDiff, Nat.reduceAdd, simA, simL, simN, Nat.zero_add, zev, List.toList_toArray, len9, ix9, zew, zex, zey, zez, zfa, zeroT, encT, opA_five64, five64_str, ci, q1, ct, cellsT, ldT_a, ldT_0, ldT_1, ldT_2, ldT_4, faT_0, faT_1, faT_2, faT_4, Nat.reduceAdd, i_eqlV, Int.reduceBEq, s_eqlS, w0, w1, w2, w3, w4, lenTk, zds, bdT_00, st_Tt, stT_6, ce, cl]
    exact finish_T2 _ _ _ _ _ (listT ks nilT') _ _ _ _ _ (by simp only [zfp, ↓reduceIte, Nat.reduceEqDiff]; try rfl) (by simp only [zfp, ↓reduceIte, Nat.reduceEqDiff]; try rfl) (by simp only [zfp, ↓reduceIte, Nat.reduceEqDiff]; try rfl) rfl
  · have b5 : (k == 5) = false := beq_eq_false_iff_ne.mpr hk
    rw [t2l_no (.mk k n1 lg l s1 i1 kg ks) hk]
    simp only [simB, zbo, Nat.reduceBEq, own0, ↓reduceIte, Nat.reduceEqDiff, Nat.reduceAdd, simA, simL, simN, Nat.zero_add, zev, List.toList_toArray, len9, ix9, zew, zex, zey, zez, zfa, zeroT, encT, opA_five64, five64_str, ci, q1, ct, cellsT, ldT_a, ldT_0, ldT_1, ldT_2, ldT_4, faT_0, faT_1, faT_2, faT_4, Nat.reduceAdd, i_eqlV, Int.reduceBEq, s_eqlS, w0, w1, w2, w3, w4, lenTk, zds, bdT_00, st_Tt, stT_6, b5]
    exact finish_T2 _ _ _ _ _ (T0) _ _ _ _ _ (by simp only [zfp, ↓reduceIte, Nat.reduceEqDiff]; try rfl) (by simp only [zfp, ↓reduceIte, Nat.reduceEqDiff]; try rfl) (by simp only [zfp, ↓reduceIte, Nat.reduceEqDiff]; try rfl) rfl

set_option maxHeartbeats 8000000 in
theorem bone_integer_to_list (R d : Nat) (hR : 100000 ≤ R) (hd : 20 ≤ d) (t : T) (hl : Limbs (limT t)) (hlt : (textZ (zOfT t)).length ≤ 10000) : evalFn Tryz.prog cfg0 R (d+1) 62 [.tree (.str w_integer_to_list), .tree (encT t)] = some (.tree (.tup [encT (itlT txtT t).1, .bool (itlT txtT t).2]), [[], []]) := by
  rw [evalFn_go _ Tryz.func62 (by unfold Tryz.f62; rfl) (by unfold Tryz.f62; decide) (Nat.le_of_ble_eq_true (by unfold Tryz.f62; rfl)) (by kernel_rfl)]
  have w0 : (w_integer_to_list == ([108, 105, 115, 116, 95, 116, 111, 95, 116, 117, 112, 108, 101] : List UInt8)) = false := by decide
  have w1 : (w_integer_to_list == ([114, 101, 118, 101, 114, 115, 101] : List UInt8)) = false := by decide
  have w2 : (w_integer_to_list == ([116, 117, 112, 108, 101, 95, 116, 111, 95, 108, 105, 115, 116] : List UInt8)) = false := by decide
  have w3 : (w_integer_to_list == ([105, 110, 116, 101, 103, 101, 114, 95, 116, 111, 95, 108, 105, 115, 116] : List UInt8)) = true := by decide
  have w4 : (w_integer_to_list == ([97, 116, 111, 109, 95, 116, 111, 95, 108, 105, 115, 116] : List UInt8)) = false := by decide
  have ci := fun D st => callA_trees (cfg := cfg0) (d := D) (s := st) (f := 61) (vs := [.sl five 5 .tight, .str w_integer_to_list]) rfl (evalFn_mono (show 100000 ≤ R by omega) 20 d (by omega) _ _ _ bidx_integer_to_list)
  simp only [five] at ci
  obtain ⟨d', rfl⟩ : ∃ d', d = d' + 6 := ⟨d - 6, by omega⟩
  have ct := fun D st => callA_trees (cfg := cfg0) (d := D) (s := st) (f := 53) (vs := [encT t]) rfl (items_eq R (by omega) (d'+5) t)
  have q1 : ¬ ((-1 : Int) ≥ 0) := by decide
  obtain ⟨sl, bb, hV⟩ := itemsV_tup (itemsT t)
  rw [hV] at ct
  obtain ⟨k, n1, lg, l, s1, i1, kg, ks⟩ := t
  simp only [encT, cellsT] at ct
  simp only [zOfT, sgnT, limT] at hlt hl
  by_cases hk : k = 1
  · subst hk
    have cx := fun D st => callA_trees (cfg := cfg0) (d := D) (s := st) (f := 94) (vs := [encA n1 lg l]) (by cases lg <;> rfl) (text_eq R d' (by omega) (isN_A n1 lg l hl))
    have cb := fun D st => callA_trees (cfg := cfg0) (d := D) (s := st) (f := 93) (vs := [.str (textZ (numZ n1 l))]) rfl (btext_eq R (d'+1) (by omega) _ hlt)
    simp only [encT, encA] at cx cb
    rw [itl_yes txtT (.mk 1 n1 lg l s1 i1 kg ks) rfl]
    simp only [simB, zbo, Nat.reduceBEq, own0, ↓reduceIte, Nat.reduceEqDiff, Nat.reduceAdd, simA, simL, simN, Nat.zero_add, zev, List.toList_toArray, len9, ix9, zew, zex, zey, zez, zfa, zeroT, encT, opA_five64, five64_str, ci, q1, ct, cellsT, ldT_a, ldT_0, ldT_1, ldT_2, ldT_4, faT_0, faT_1, faT_2, faT_4, Nat.reduceAdd, i_eqlV, Int.reduceBEq, s_eqlS, w0, w1, w2, w3, w4, lenTk, zds, bdT_00, st_Tt, stT_6, cx, cb]
    exact finish_T2 _ _ _ _ _ (listT (txtT (textZ (numZ n1 l))) nilT') _ _ _ _ _ (by simp only [zfp, ↓reduceIte, Nat.reduceEqDiff]; try rfl) (by simp only [zfp, ↓reduceIte, Nat.reduceEqDiff]; try rfl) (by simp only [zfp, ↓reduceIte, Nat.reduceEqDiff]; try rfl) rfl
  · have b5 : (k == 1) = false := beq_eq_false_iff_ne.mpr hk
    rw [itl_no txtT (.mk k n1 lg l s1 i1 kg ks) hk]
    simp only [simB, zbo, Nat.reduceBEq, own0, ↓reduceIte, Nat.reduceEqDiff, Nat.reduceAdd, simA, simL, simN, Nat.zero_add, zev, List.toList_toArray, len9, ix9, zew, zex, zey, zez, zfa, zeroT, encT, opA_five64, five64_str, ci, q1, ct, cellsT, ldT_a, ldT_0, ldT_1, ldT_2, ldT_4, faT_0, faT_1, faT_2, faT_4, Nat.reduceAdd, i_eqlV, Int.reduceBEq, s_eqlS, w0, w1, w2, w3, w4, lenTk, zds, bdT_00, st_Tt, stT_6, b5]
    exact finish_T2 _ _ _ _ _ (T0) _ _ _ _ _ (by simp only [zfp, ↓reduceIte, Nat.reduceEqDiff]; try rfl) (by simp only [zfp, ↓reduceIte, Nat.reduceEqDiff]; try rfl) (by simp only [zfp, ↓reduceIte, Nat.reduceEqDiff]; try rfl) rfl

set_option maxHeartbeats 8000000 in
theorem bone_atom_to_list (R d : Nat) (hR : 100000 ≤ R) (hd : 20 ≤ d) (t : T) (hlt : (strT t).length ≤ 10000) : evalFn Tryz.prog cfg0 R (d+1) 62 [.tree (.str w_atom_to_list), .tree (encT t)] = some (.tree (.tup [encT (atlT txtT t).1, .bool (atlT txtT t).2]), [[], []]) := by
  rw [evalFn_go _ Tryz.func62 (by unfold Tryz.f62; rfl) (by unfold Tryz.f62; decide) (Nat.le_of_ble_eq_true (by unfold Tryz.f62; rfl)) (by kernel_rfl)]
  have w0 : (w_atom_to_list == ([108, 105, 115, 116, 95, 116, 111, 95, 116, 117, 112, 108, 101] : List UInt8)) = false := by decide
  have w1 : (w_atom_to_list == ([114, 101, 118, 101, 114, 115, 101] : List UInt8)) = false := by decide
  have w2 : (w_atom_to_list == ([116, 117, 112, 108, 101, 95, 116, 111, 95, 108, 105, 115, 116] : List UInt8)) = false := by decide
  have w3 : (w_atom_to_list == ([105, 110, 116, 101, 103, 101, 114, 95, 116, 111, 95, 108, 105, 115, 116] : List UInt8)) = false := by decide
  have w4 : (w_atom_to_list == ([97, 116, 111, 109, 95, 116, 111, 95, 108, 105, 115, 116] : List UInt8)) = true := by decide
  have ci := fun D st => callA_trees (cfg := cfg0) (d := D) (s := st) (f := 61) (vs := [.sl five 5 .tight, .str w_atom_to_list]) rfl (evalFn_mono (show 100000 ≤ R by omega) 20 d (by omega) _ _ _ bidx_atom_to_list)
  simp only [five] at ci
  obtain ⟨d', rfl⟩ : ∃ d', d = d' + 6 := ⟨d - 6, by omega⟩
  have ct := fun D st => callA_trees (cfg := cfg0) (d := D) (s := st) (f := 53) (vs := [encT t]) rfl (items_eq R (by omega) (d'+5) t)
  have q1 : ¬ ((-1 : Int) ≥ 0) := by decide
  obtain ⟨sl, bb, hV⟩ := itemsV_tup (itemsT t)
  rw [hV] at ct
  obtain ⟨k, n1, lg, l, s1, i1, kg, ks⟩ := t
  simp only [encT, cellsT] at ct
  simp only [strT] at hlt
  by_cases hk : k = 2
  · subst hk
    have cb := fun D st => callA_trees (cfg := cfg0) (d := D) (s := st) (f := 93) (vs := [.str s1]) rfl (btext_eq R (d'+1) (by omega) _ hlt)
    simp only [encT] at cb
    rw [atl_yes txtT (.mk 2 n1 lg l s1 i1 kg ks) rfl]
    simp only [simB, zbo, Nat.reduceBEq, own0, ↓reduceIte, Nat.reduceEqDiff, Nat.reduceAdd, simA, simL, simN, Nat.zero_add, zev, List.toList_toArray, len9, ix9, zew, zex, zey, zez, zfa, zeroT, encT, opA_five64, five64_str, ci, q1, ct, cellsT, ldT_a, ldT_0, ldT_1, ldT_2, ldT_4, faT_0, faT_1, faT_2, faT_4, Nat.reduceAdd, i_eqlV, Int.reduceBEq, s_eqlS, w0, w1, w2, w3, w4, lenTk, zds, bdT_00, st_Tt, stT_6, cb]
    exact finish_T2 _ _ _ _ _ (listT (txtT s1) nilT') _ _ _ _ _ (by simp only [zfp, ↓reduceIte, Nat.reduceEqDiff]; try rfl) (by simp only [zfp, ↓reduceIte, Nat.reduceEqDiff]; try rfl) (by simp only [zfp, ↓reduceIte, Nat.reduceEqDiff]; try rfl) rfl
  · have b5 : (k == 2) = false := beq_eq_false_iff_ne.mpr hk
    rw [atl_no txtT (.mk k n1 lg l s1 i1 kg ks) hk]
    simp only [simB, zbo, Nat.reduceBEq, own0, ↓reduceIte, Nat.reduceEqDiff, Nat.reduceAdd, simA, simL, simN, Nat.zero_add, zev, List.toList_toArray, len9, ix9, zew, zex, zey, zez, zfa, zeroT, encT, opA_five64, five64_str, ci, q1, ct, cellsT, ldT_a, ldT_0, ldT_1, ldT_2, ldT_4, faT_0, faT_1, faT_2, faT_4, Nat.reduceAdd, i_eqlV, Int.reduceBEq, s_eqlS, w0, w1, w2, w3, w4, lenTk, zds, bdT_00, st_Tt, stT_6, b5]
    exact finish_T2 _ _ _ _ _ (T0) _ _ _ _ _ (by simp only [zfp, ↓reduceIte, Nat.reduceEqDiff]; try rfl) (by simp only [zfp, ↓reduceIte, Nat.reduceEqDiff]; try rfl) (by simp only [zfp, ↓reduceIte, Nat.reduceEqDiff]; try rfl) rfl
end Go.Ab

/- bif.one of reverse where there is no list (CFG1). No conditions. -/
namespace Go.Ab
open Go.Proofs
set_option maxRecDepth 100000
set_option linter.unusedSimpArgs false

set_option maxHeartbeats 8000000 in
theorem oneRev1_none (t : T) (h : itemsT t = none) : evalFn Tryz.prog cfg1 100000 40 62 [.tree (.str sRev), .tree (encT t)] = some (.tree (.tup [encT T0, .bool false]), [[], []]) := by
  rw [evalFn_go _ Tryz.func62 (by unfold Tryz.f62; rfl) (by unfold Tryz.f62; decide) (Nat.le_of_ble_eq_true (by unfold Tryz.f62; rfl)) (by kernel_rfl)]
  have w0 : (sRev == ([108, 105, 115, 116, 95, 116, 111, 95, 116, 117, 112, 108, 101] : List UInt8)) = false := by decide
  have w1 : (sRev == ([114, 101, 118, 101, 114, 115, 101] : List UInt8)) = true := by decide
  have w2 : (sRev == ([116, 117, 112, 108, 101, 95, 116, 111, 95, 108, 105, 115, 116] : List UInt8)) = false := by decide
  have w3 : (sRev == ([105, 110, 116, 101, 103, 101, 114, 95, 116, 111, 95, 108, 105, 115, 116] : List UInt8)) = false := by decide
  have w4 : (sRev == ([97, 116, 111, 109, 95, 116, 111, 95, 108, 105, 115, 116] : List UInt8)) = false := by decide
  have ci := fun D st => callA_trees (cfg := cfg1) (d := D) (s := st) (f := 61) (vs := [.sl five 5 .tight, .str sRev]) rfl (evalFn_mono (show 100000 ≤ 100000 by omega) 20 39 (by omega) _ _ _ idxRev1)
  simp only [five] at ci
  have q1 : ¬ ((-1 : Int) ≥ 0) := by decide
  have hi := items1_eq 100000 (by omega) 38 t
  rw [h] at hi
  have ct := fun D st => callA_trees (cfg := cfg1) (d := D) (s := st) (f := 53) (vs := [encT t]) rfl hi
  simp only [encT] at ct
  simp only [simB, keep1, Nat.reduceBEq, own1, String.reduceAppend, String.reduceBEq, Bool.or_false, Bool.or_true, Bool.or_self, ↓reduceIte, Nat.reduceEqDiff, Nat.reduceAdd, simA, simL, simN, Nat.zero_add, zev, List.toList_toArray, len9, ix9, zew, zex, zey, zez, zfa, zeroT, encT, opA_five64c, five64_str, ci, q1, ct, ldT_u, s_eqlS, w0, w1, w2, w3, w4, zds, bdT_00, st_Tt, stT_6]
  exact finish_T2 _ _ _ _ _ T0 _ _ _ _ _ (by simp only [zfp, ↓reduceIte, Nat.reduceEqDiff]; try rfl) (by simp only [zfp, ↓reduceIte, Nat.reduceEqDiff]; try rfl) (by simp only [zfp, ↓reduceIte, Nat.reduceEqDiff]; try rfl) rfl
end Go.Ab

/- bif.one of reverse; relictref19.text; relictref19.ones of any term. Conditions: lengths in range. -/
namespace Go.Ab
open Go.Proofs
set_option maxRecDepth 100000
set_option linter.unusedSimpArgs false

def revT (t : T) : T × Bool := match itemsT t with
  | some us => (listT us.reverse nilT', true)
  | none => (T0, false)
theorem rev_yes (t : T) (us : List T) (h : itemsT t = some us) : revT t = (listT us.reverse nilT', true) := by unfold revT; rw [h]
theorem rev_no (t : T) (h : itemsT t = none) : revT t = (T0, false) := by unfold revT; rw [h]
theorem bone_reverse (R d : Nat) (t : T) (hn : nodT t ≤ 1999) : evalFn Tryz.prog cfg0 R (d+1) 62 [.tree (.str w_reverse), .tree (encT t)] = some (.tree (.tup [encT (revT t).1, .bool (revT t).2]), [[], []]) := by
  cases hI : itemsT t with
  | some us =>
    rw [rev_yes t us hI]
    exact oneRev_eq R d t us hI (by have := items_len t us hI; omega)
  | none =>
    rw [rev_no t hI]
    have hp : prim0 62 [.tree (.str sRev), .tree (encT t)] = some (.tree (.tup [encT T0, .bool false]), [[], []]) := by
      unfold prim0
      rw [if_neg (by decide), if_neg (by decide), if_pos (by simp only [isRev, sRev]; decide)]
      exact oneRev1_none t hI
    have hc : cfg0.prim = prim0 := rfl
    show evalFn Tryz.prog cfg0 R (d+1) 62 [.tree (.str sRev), .tree (encT t)] = _
    rw [evalFn]
    simp only [hc, hp]
def itxT (s : List UInt8) : List T := s.map fun c => intT (c.toNat : Int)
theorem itx_len (s : List UInt8) : (itxT s).length = s.length := List.length_map _
set_option maxHeartbeats 4000000 in
theorem rtext19_eq (n d : Nat) (hn : 100000 ≤ n) (s : List UInt8) (hs : s.length ≤ 10000) : evalFn Tryz.prog cfg0 n (d+5) 65 [.tree (.str s)] = some (.tree (encT (listT (itxT s) nilT')), [[]]) := by
  rw [evalFn_go _ Tryz.func65 (by unfold Tryz.f65; rfl) (by unfold Tryz.f65; decide) (Nat.le_of_ble_eq_true (by unfold Tryz.f65; rfl)) (by kernel_rfl)]
  simp only [simB, zbo, Nat.reduceBEq, own0, ↓reduceIte, Nat.reduceEqDiff, Nat.reduceAdd, simA, simL, simN, Nat.zero_add, zev, List.toList_toArray, len9, ix9, zew, zex, zey, zez, zfa, zeroT, den_loop]
  refine loop_ends (X := Nat) (fun i env st => env 0 = .str s ∧ env 2 = .ptr 2 1 0 ∧ env 4 = .int .i64 (i : Int) ∧ Ap st 18 (env 3) (itxT (s.take i)) ∧ st 2 = ⟨1, .buf [.int .i64 0, .bool false, .sl [] 0 .nil, .str [], .int .i64 0, .sl [] 0 .nil]⟩ ∧ i ≤ s.length) (fun i => s.length - i) (fun _ => (.tree (encT (listT (itxT s) nilT')), [[]])) ?_ n 0 _ _ (by omega) ⟨(by simp only [zfp, ↓reduceIte, Nat.reduceEqDiff, env0, List.getElem?_cons_zero]; try rfl), (by simp only [zfp, ↓reduceIte, Nat.reduceEqDiff]; try rfl), (by simp only [zfp, ↓reduceIte, Nat.reduceEqDiff]; try rfl), .inl ⟨rfl, (by simp only [zfp, ↓reduceIte, Nat.reduceEqDiff]; try rfl)⟩, (by simp only [zfp, ↓reduceIte, Nat.reduceEqDiff]; try rfl), Nat.zero_le _⟩
  intro rr i hr ih env st ⟨e0, e2, e4, ap, j2, hi⟩
  by_cases hlt : i < s.length
  · have q1 : (i : Int) < (s.length : Int) := by omega
    have q2 : (0 : Int) ≤ (i : Int) := by omega
    have c8 := (s.getD i 0).toNat_lt
    have cv := fun st => conv5_3 st (s.getD i 0).toNat (by omega)
    have c1 := fun D st => callA_trees (cfg := cfg0) (d := D) (s := st) (f := 54) (vs := [.int .i64 ((s.getD i 0).toNat : Int)]) rfl (rInt_eq n d hn _ (u8_64 (s.getD i 0)))
    simp only [encT] at c1
    obtain ⟨x', s', a1, a2, a3⟩ := ap.push (by rw [itx_len, List.length_take]; omega) (intT ((s.getD i 0).toNat : Int))
    have f5 := i_add Tryz.prog 3 (i : Int) 1 (by omega) (by omega)
    have hm : itxT (s.take (i + 1)) = (itxT (s.take i)) ++ [intT ((s.getD i 0).toNat : Int)] := by
      rw [List.take_succ_eq_append_getElem hlt, itxT, List.map_append, List.getD_eq_getElem?_getD, List.getElem?_eq_getElem hlt]; rfl
    simp only [simB, zbo, Nat.reduceBEq, own0, ↓reduceIte, Nat.reduceEqDiff, Nat.reduceAdd, simL, simN, Nat.zero_add, zev, List.toList_toArray, len9, ix9, zew, zex, zey, zez, zfa, e0, e2, e4, len9, q1, q2, and_self, Int.toNat_natCast, cv, c1, opA_one26, one26_T, a1, f5]
    exact ih (i + 1) _ _ (by omega) rfl ⟨(by simp only [zfp, ↓reduceIte, Nat.reduceEqDiff, e0]; try rfl), (by simp only [zfp, ↓reduceIte, Nat.reduceEqDiff, e2]; try rfl), (by simp only [zfp, ↓reduceIte, Nat.reduceEqDiff]; try rfl), by rw [hm]; exact a2, by rw [a3 2 (by decide)]; exact j2, by omega⟩
  have hie : i = s.length := by omega
  subst hie
  have q1 : ¬ (s.length : Int) < (s.length : Int) := by omega
  rw [List.take_length] at ap
  obtain ⟨hl1, hl2⟩ := ap.lent
  have cl := fun D st => callA_loose (call := evalFn Tryz.prog cfg0 n (d+4)) (d := D) (s := st) (f := 16) (vs := [env 3, encT nilT']) (vs' := [.sl (cellsK (itxT s)) (itxT s).length (gr (kgOf (itxT s))), encT nilT']) (by simp only [List.all_cons, hl1, encT, lent_T, List.all_nil, Bool.and_self]) (by simp only [List.map_cons, hl2]; rfl) (rList_eq n (d+3) (itxT s) _ nilT' (by rw [itx_len]; omega) (by rw [itx_len]; omega))
  simp only [encT] at cl
  simp only [simB, zbo, Nat.reduceBEq, own0, ↓reduceIte, Nat.reduceEqDiff, Nat.reduceAdd, simL, simN, Nat.zero_add, zev, List.toList_toArray, len9, ix9, zew, zex, zey, zez, zfa, e0, e2, e4, len9, j2, q1, bdN3, cl, st_Tt, stT_6]
  exact finish_cT _ _ _ _ _ (listT (itxT s) nilT') _ _ _ (by simp only [zfp, ↓reduceIte, Nat.reduceEqDiff, e2]; try rfl) (by simp only [zfp, ↓reduceIte, Nat.reduceEqDiff]; try rfl) rfl
end Go.Ab

/- A number's text, as the reference has it. Conditions: a number that is shown. -/
namespace Go.Ab
open Go.Proofs
set_option maxRecDepth 100000
set_option linter.unusedSimpArgs false

theorem sl9_lh (s : St) (b : List UInt8) (k k' : IntKind) (i j : Int) : sliceA Tryz.prog 9 s (.str b) (some (.int k i)) (some (.int k' j)) none = if 0 ≤ j ∧ j ≤ b.length then (if 0 ≤ i ∧ i ≤ (j.toNat : Int) then some (.str ((b.take j.toNat).drop i.toNat)) else none) else none := by
  simp only [sliceA, tk9, boundA, Option.isSome_none, Bool.false_eq_true, if_false, Option.bind_some]
  split
  · rw [Option.bind_some]
    split <;> rfl
  · rfl
theorem conv31_3 (s : St) (x : Nat) (h : x < 4294967296) : convA Tryz.prog 57 3 s (.int .u32 (x : Int)) = some (.int .i64 (x : Int)) := by
  have t3 : tkOf Tryz.prog 3 = .int .i64 := by kernel_rfl
  simp only [convA, t3, tk31, i64_wrap _ (show -9223372036854775808 ≤ (x : Int) by omega) (show (x : Int) ≤ 9223372036854775807 by omega)]
theorem digs_one (r : Nat) (h : r < 10) (h0 : r ≠ 0) : digs r = [r] := by
  have h1 := val_digs r
  have h2 := digs_len r 1 (by rw [Nat.pow_one]; exact Nat.lt_trans h (by decide))
  have h3 := digs_len0 r
  cases hd : digs r with
  | nil => rw [hd] at h3; exact absurd (h3.mp rfl) h0
  | cons a t =>
    rw [hd] at h2 h1
    have : t = [] := by
      cases t with
      | nil => rfl
      | cons _ _ => simp at h2
    subst this
    have : a + B * 0 = r := h1
    rw [show a = r by omega]
theorem dgs_at : ∀ r : Fin 10, (dgs.take (r.val + 1)).drop r.val = [dg r.val] := by decide
theorem dg_mod (v : Nat) : dg (v % 10) = dg v := by unfold dg; rw [Nat.mod_mod]
theorem rcDiv10 (n d : Nat) (hn : 100000 ≤ n) (D : Nat) (s : St) (g : Gk) (v : Nat) (hv : v < B ^ 12) (h0 : v ≠ 0) : callA cfg0 (evalFn Tryz.prog cfg0 n (d+4)) D s 84 [encL g (digs v), .sl [.int .u32 10] 1 .tight] = some (.tup [encF (v / 10), encF (v % 10)], s) := by
  have h := rdiv_eq n d g .t (digs v) [10] (limbs_digs _) (limbs_one (by decide)) hn (by have := digs_len _ 12 hv; omega) (by decide)
  rw [val_digs, show val [10] = 10 by decide, divR, if_neg (by decide), encQ_pos _ _ (fun hb => h0 ((blen_eq0 _).mp hb))] at h
  exact callA_L2 _ _ _ _ _ _ _ _ _ h
set_option maxHeartbeats 16000000 in
theorem rtext_eq (n d : Nat) (hn : 100000 ≤ n) {w : AV} {z : Int} (hw : IsN w z) : evalFn Tryz.prog cfg0 n (d+5) 66 [.tree w] = some (.tree (.str (textZ z)), [[]]) := by
  obtain ⟨g, c1⟩ := cRis n (d + 2) hw
  have hlt := hw.lt
  obtain ⟨neg, g0, l0, rfl, hl, hz⟩ := hw
  rw [evalFn_go _ Tryz.func66 (by unfold Tryz.f66; rfl) (by unfold Tryz.f66; decide) (Nat.le_of_ble_eq_true (by unfold Tryz.f66; rfl)) (by kernel_rfl)]
  simp only [simB, zbo, Nat.reduceBEq, own0, ↓reduceIte, Nat.reduceEqDiff, Nat.reduceAdd, simA, simL, simN, Nat.zero_add, zev, List.toList_toArray, len9, ix9, zew, zex, zey, zez, zfa, st0_1, c1, den_loop]
  have h116 : z.natAbs < 10 ^ 116 := Nat.lt_trans hlt B12_ten
  generalize hv : z.natAbs = v at *
  refine loop_ends (X := Nat × Gk × List UInt8) (fun x env s => env 3 = .ptr 3 1 0 ∧ env 4 = .str x.2.2 ∧ env 5 = encL x.2.1 (digs (v / 10 ^ x.1)) ∧ s 3 = ⟨1, .buf [.bool (decide (z < 0)), encL g (digs v)]⟩ ∧ x.2.2.length ≤ x.1 ∧ x.1 ≤ 116 ∧ decN v = decN (v / 10 ^ x.1) ++ x.2.2) (fun x => 117 - x.1) (fun _ => (.tree (.str (textZ z)), [[]])) ?_ n (0, g, []) _ _ (by simp only; omega) ⟨by first | (simp only [zfp, ↓reduceIte, Nat.reduceEqDiff]; done) | (simp only [zfp, ↓reduceIte, Nat.reduceEqDiff]; rfl), by first | (simp only [zfp, ↓reduceIte, Nat.reduceEqDiff]; done) | (simp only [zfp, ↓reduceIte, Nat.reduceEqDiff]; rfl), by rw [Nat.pow_zero, Nat.div_one]; simp only [zfp, ↓reduceIte, Nat.reduceEqDiff], by first | (simp only [zfp, ↓reduceIte, Nat.reduceEqDiff]; done) | (simp only [zfp, ↓reduceIte, Nat.reduceEqDiff]; rfl), by simp, by simp, by simp⟩
  intro k ⟨j, gg, ss⟩ hxk ih env s ⟨e3, e4, e5, j3, hsl, hj, hdec⟩
  simp only at e4 e5 hsl hj hdec hxk
  by_cases h0 : v / 10 ^ j = 0
  · have q1 : ¬ ((digs (v / 10 ^ j)).length : Int) > 0 := by rw [h0]; simp [digs_0]
    rw [h0, decN_0, List.nil_append] at hdec
    rw [textZ_of, hv, hdec]
    by_cases hd : ss = []
    · have q3 : (ss == []) = true := by rw [hd]; rfl
      rw [if_pos hd]
      simp only [simB, zbo, Nat.reduceBEq, own0, ↓reduceIte, Nat.reduceEqDiff, Nat.reduceAdd, simA, simL, simN, Nat.zero_add, zev, List.toList_toArray, len9, ix9, zew, zex, zey, zez, zfa, e3, e4, e5, j3, q1, q3]
      exact finish_s _ _ _ _ _ _ _ (by simp only [zfp, ↓reduceIte, Nat.reduceEqDiff]) rfl
    · have q3 : (ss == []) = false := by rw [beq_eq_false_iff_ne]; exact hd
      rw [if_neg hd]
      have ad := s_addS Tryz.prog 9 [45] ss (by simp only [List.length_cons, List.length_nil]; omega)
      by_cases hz0 : z < 0
      · rw [if_pos hz0]
        simp only [simB, zbo, Nat.reduceBEq, own0, ↓reduceIte, Nat.reduceEqDiff, Nat.reduceAdd, simA, simL, simN, Nat.zero_add, zev, List.toList_toArray, len9, ix9, zew, zex, zey, zez, zfa, e3, e4, e5, j3, q1, q3, hz0, ad]
        exact finish_s _ _ _ _ _ _ _ (by simp only [zfp, ↓reduceIte, Nat.reduceEqDiff]) rfl
      · rw [if_neg hz0]
        simp only [simB, zbo, Nat.reduceBEq, own0, ↓reduceIte, Nat.reduceEqDiff, Nat.reduceAdd, simA, simL, simN, Nat.zero_add, zev, List.toList_toArray, len9, ix9, zew, zex, zey, zez, zfa, e3, e4, e5, j3, q1, q3, hz0]
        exact finish_s _ _ _ _ _ _ _ (by simp only [zfp, ↓reduceIte, Nat.reduceEqDiff]) rfl
  · have q1 : ((digs (v / 10 ^ j)).length : Int) > 0 := by
      have : (digs (v / 10 ^ j)).length ≠ 0 := fun h => h0 ((digs_len0 _).mp h)
      omega
    have hj2 : j < 116 := by
      apply Classical.byContradiction
      intro hc
      exact h0 (Nat.div_eq_of_lt (Nat.lt_of_lt_of_le h116 (Nat.pow_le_pow_right (by decide) (by omega))))
    have hx : v / 10 ^ j < B ^ 12 := Nat.lt_of_le_of_lt (Nat.div_le_self _ _) hlt
    have c2 := fun D s => rcDiv10 n d hn D s gg _ hx h0
    have hnx : v / 10 ^ j / 10 = v / 10 ^ (j + 1) := by rw [Nat.div_div_eq_div_mul, ← Nat.pow_succ]
    rw [hnx] at c2
    have hr : v / 10 ^ j % 10 < 10 := Nat.mod_lt _ (by decide)
    have hdec2 : decN v = decN (v / 10 ^ (j + 1)) ++ (dg (v / 10 ^ j % 10) :: ss) := by
      rw [hdec, decN_pos _ h0, hnx, dg_mod, List.append_assoc]; rfl
    generalize hrr : v / 10 ^ j % 10 = r at *
    have a1 := i_add Tryz.prog 3 (r : Int) 1 (by omega) (by omega)
    have q4 : (0 : Int) ≤ (r : Int) + 1 ∧ (r : Int) + 1 ≤ ((dgs.length : Nat) : Int) := by
      have : dgs.length = 10 := rfl
      omega
    have q5 : (0 : Int) ≤ (r : Int) ∧ (r : Int) ≤ ((((r : Int) + 1).toNat : Nat) : Int) := by omega
    have q6 : (dgs.take ((r : Int) + 1).toNat).drop ((r : Int)).toNat = [dg r] := by
      rw [show ((r : Int) + 1).toNat = r + 1 by omega, Int.toNat_natCast]
      exact dgs_at ⟨r, hr⟩
    have ad := s_addS Tryz.prog 9 [dg r] ss (by simp only [List.length_cons, List.length_nil]; omega)
    have edg : ([48, 49, 50, 51, 52, 53, 54, 55, 56, 57] : List UInt8) = dgs := rfl
    by_cases hr0 : r = 0
    · have q2 : ¬ ((digs r).length : Int) > 0 := by rw [hr0]; simp [digs_0]
      subst hr0
      have a1 := i_add Tryz.prog 3 0 1 (by omega) (by omega)
      have q4 : (0 : Int) ≤ 0 + 1 ∧ (0 : Int) + 1 ≤ ((dgs.length : Nat) : Int) := by decide
      have q5 : (0 : Int) ≤ 0 ∧ (0 : Int) ≤ ((((0 : Int) + 1).toNat : Nat) : Int) := by decide
      have q6 : (dgs.take ((0 : Int) + 1).toNat).drop (0 : Int).toNat = [dg 0] := by decide
      simp only [simB, zbo, Nat.reduceBEq, own0, ↓reduceIte, Nat.reduceEqDiff, Nat.reduceAdd, simA, simL, simN, Nat.zero_add, zev, List.toList_toArray, len9, ix9, zew, zex, zey, zez, zfa, e3, e4, e5, j3, q1, opA_one, one22_int, c2, lenF, q2, a1, edg, sl9_lh, q4, q5, and_self, q6, ad]
      refine ih (j + 1, .l, dg 0 :: ss) _ _ (by simp only; omega) rfl ⟨?_, ?_, ?_, j3, ?_, by simp only; omega, hdec2⟩
      · simp only [zfp, ↓reduceIte, Nat.reduceEqDiff, e3]
      · simp only [zfp, ↓reduceIte, Nat.reduceEqDiff, List.cons_append, List.nil_append]
      · simp only [zfp, ↓reduceIte, Nat.reduceEqDiff]; rfl
      · simp only [List.length_cons]; omega
    · have hd1 := digs_one r hr hr0
      have q2 : (((([r] : List Nat)).length : Nat) : Int) > 0 := by simp
      have q7 : (0 : Int) < (((([r] : List Nat)).length : Nat) : Int) := by simp
      have q8 : (0 : Int) ≤ 0 := Int.le_refl _
      have q9 : 0 < (([r] : List Nat)).length := by simp
      have q10 : ([r] : List Nat).getD 0 0 = r := rfl
      have cv := fun s => conv31_3 s r (by omega)
      have eF : encF r = encL .l [r] := by rw [encF, hd1]
      rw [eF] at c2
      simp only [simB, zbo, Nat.reduceBEq, own0, ↓reduceIte, Nat.reduceEqDiff, Nat.reduceAdd, simA, simL, simN, Nat.zero_add, zev, List.toList_toArray, len9, ix9, zew, zex, zey, zez, zfa, e3, e4, e5, j3, q1, opA_one, one22_int, c2, q2, q7, q8, q9, q10, Int.toNat_zero, cv, a1, edg, sl9_lh, q4, q5, and_self, q6, ad]
      refine ih (j + 1, .l, dg r :: ss) _ _ (by simp only; omega) rfl ⟨?_, ?_, ?_, j3, ?_, by simp only; omega, hdec2⟩
      · simp only [zfp, ↓reduceIte, Nat.reduceEqDiff, e3]
      · simp only [zfp, ↓reduceIte, Nat.reduceEqDiff]
      · simp only [zfp, ↓reduceIte, Nat.reduceEqDiff]; rfl
      · simp only [List.length_cons]; omega
end Go.Ab

/- relictref19.ones of any term, by its name (printed by genrones.py). Conditions: lengths in range. -/
namespace Go.Ab
open Go.Proofs
set_option maxRecDepth 100000
set_option linter.unusedSimpArgs false

def nm5 (i : Nat) : List UInt8 := match i with
  | 0 => w_hd
  | 1 => w_tl
  | 2 => w_tuple_size
  | 3 => w_byte_size
  | _ => w_length
def zS5 : List AV := [.str [], .str [], .str [], .str [], .str []]
theorem tkS5 : tkOf Tryz.prog 81 = .arr 5 9 := by kernel_rfl
theorem eszS5 : esz Tryz.prog 81 = some 5 := by kernel_rfl
theorem zeroS5 : zeroOf Tryz.prog 81 = some zS5 := by kernel_rfl
theorem bdS5 : buildA Tryz.prog 81 [(0, .str [104, 100]), (1, .str [116, 108]), (2, .str [116, 117, 112, 108, 101, 95, 115, 105, 122, 101]), (3, .str [98, 121, 116, 101, 95, 115, 105, 122, 101]), (4, .str [108, 101, 110, 103, 116, 104])] = some (.agg five) := by
  simp only [buildA, zeroS5, tkS5, esz9, Option.bind_some]; rfl
def stS5 (e : Ent) (p k : Nat) (st : St) : Option St := match e with | ⟨t, .buf xs⟩ => if t = k then (if 5 ≤ xs.length then some (upd st p ⟨t, .buf (splice xs 0 five)⟩) else none) else none | _ => none
theorem st_S5 (st : St) (p k : Nat) : storeA Tryz.prog 81 st (.ptr p k 0) (.agg five) = stS5 (st p) p k st := by
  simp only [storeA, settle, Option.bind_some, stS5]
  have h5 : five.length = 5 := rfl
  cases h : st p with
  | mk t c => cases c <;> simp [eszS5, h5]
theorem stS5_new (t p k : Nat) (st : St) : stS5 ⟨t, .buf zS5⟩ p k st = if t = k then some (upd st p ⟨t, .buf five⟩) else none := by
  rw [stS5, if_pos (show 5 ≤ zS5.length from Nat.le_refl _)]; rfl
def iaS5 (e : Ent) (p k : Nat) (i : Int) : Option AV := if (cellsE e k).isSome = true ∧ 0 ≤ i ∧ i < 5 then some (.ptr p k i.toNat) else none
theorem ia_S5 (s : St) (p k : Nat) (i : Int) : indexAddrA Tryz.prog 81 s (.ptr p k 0) (.int .i64 i) = iaS5 (s p) p k i := by
  simp only [indexAddrA, tkS5, esz9, Option.bind_some, live, cellsAt_E, iaS5, Nat.zero_add, Nat.mul_one]; rfl
theorem iaS5_buf (t p k : Nat) (i : Nat) (xs : List AV) (h : i < 5) : iaS5 ⟨t, .buf xs⟩ p k (i : Int) = if t = k then some (.ptr p k i) else none := by
  rw [iaS5, cellsE_buf]
  by_cases e : t = k
  · simp [e]; omega
  · simp [e]
theorem partS5 : ∀ i, i < 5 → partA Tryz.prog 9 five i = some (.str (nm5 i))
  | 0, _ => by kernel_rfl
  | 1, _ => by kernel_rfl
  | 2, _ => by kernel_rfl
  | 3, _ => by kernel_rfl
  | 4, _ => by kernel_rfl
theorem bdT_tupR (us : List T) (p t : Nat) : buildA Tryz.prog 29 [(0, .int .i64 5), (4, .sl (cellsK us) us.length (.tok p t))] = some (.agg (cellsT (tupT .l us))) := by
  simp only [buildA, zeroT, tkT, plT, Option.bind_some]; rfl
theorem ldS5 (t k i : Nat) (h : i < 5) : ldE Tryz.prog 9 ⟨t, .buf five⟩ k i = if t = k then some (.str (nm5 i)) else none := by
  rw [ldE_buf, cellsE_buf]
  by_cases e : t = k
  · simp [e, partS5 i h]
  · simp [e]

set_option maxHeartbeats 8000000 in
theorem rones_idx (R d : Nat) (hR : 100000 ≤ R) (name : List UInt8) (k : Nat) (hk : k ≤ 4) (hnm : ∀ i, i < k → (nm5 i == name) = false) (hk1 : (nm5 k == name) = true)
    (t : T) (h1 : nodT t ≤ 1999) (h2 : (kidsT t).length ≤ 1000000) (h3 : (strT t).length ≤ 1000000) : evalFn Tryz.prog cfg0 R (d+7) 36 [.tree (.str name), .tree (encT t)] = some (.tree (.tup [encT (oneT intT ((k + 1 : Nat) : Int) t).1, .bool (oneT intT ((k + 1 : Nat) : Int) t).2]), [[], []]) := by
  rw [evalFn_go _ Tryz.func36 (by unfold Tryz.f36; rfl) (by unfold Tryz.f36; decide) (Nat.le_of_ble_eq_true (by unfold Tryz.f36; rfl)) (by kernel_rfl)]
  simp only [simB, zbo, Nat.reduceBEq, own0, ↓reduceIte, Nat.reduceEqDiff, Nat.reduceAdd, simA, simL, simN, Nat.zero_add, zev, List.toList_toArray, len9, ix9, zew, zex, zey, zez, zfa, zeroT, zeroS5, bdS5, st_S5, stS5_new, encT, den_loop]
  refine loop_ends (X := Nat) (fun i env st => env 0 = .str name ∧ env 3 = .ptr 3 1 0 ∧ env 4 = .ptr 4 1 0 ∧ env 6 = .ptr 6 1 0 ∧ env 7 = .int .i64 (i : Int) ∧ st 3 = ⟨1, .buf (cellsT t)⟩ ∧ st 4 = ⟨1, .buf [.int .i64 0, .bool false, .sl [] 0 .nil, .str [], .int .i64 0, .sl [] 0 .nil]⟩ ∧ st 6 = ⟨1, .buf five⟩ ∧ i ≤ k) (fun i => 5 - i) (fun _ => (.tree (.tup [encT (oneT intT ((k + 1 : Nat) : Int) t).1, .bool (oneT intT ((k + 1 : Nat) : Int) t).2]), [[], []])) ?_ R 0 _ _ (by omega) ⟨(by simp only [zfp, ↓reduceIte, Nat.reduceEqDiff, env0, List.getElem?_cons_zero]; try rfl), (by simp only [zfp, ↓reduceIte, Nat.reduceEqDiff]; try rfl), (by simp only [zfp, ↓reduceIte, Nat.reduceEqDiff]; try rfl), (by simp only [zfp, ↓reduceIte, Nat.reduceEqDiff]; try rfl), (by simp only [zfp, ↓reduceIte, Nat.reduceEqDiff]; try rfl), (by simp only [zfp, ↓reduceIte, Nat.reduceEqDiff]; try rfl), (by simp only [zfp, ↓reduceIte, Nat.reduceEqDiff]; try rfl), (by simp only [zfp, ↓reduceIte, Nat.reduceEqDiff]; try rfl), Nat.zero_le _⟩
  intro rr i hr ih env st ⟨e0, e3, e4, e6, e7, j3, j4, j6, hi⟩
  by_cases hlt : i < k
  · have hb := hnm i hlt
    have q1 : (i : Int) < 5 := by omega
    have ia := fun t p k xs => iaS5_buf t p k i xs (by omega)
    have ld := fun t k => ldS5 t k i (by omega)
    have f5 := i_add Tryz.prog 3 (i : Int) 1 (by omega) (by omega)
    simp only [simB, zbo, Nat.reduceBEq, own0, ↓reduceIte, Nat.reduceEqDiff, Nat.reduceAdd, simL, simN, Nat.zero_add, zev, List.toList_toArray, len9, ix9, zew, zex, zey, zez, zfa, e0, e3, e4, e6, e7, j3, j4, j6, q1, ia_S5, ia, ld, s_eqlS, hb, f5]
    exact ih (i + 1) _ _ (by omega) rfl ⟨(by simp only [zfp, ↓reduceIte, Nat.reduceEqDiff, e0]; try rfl), (by simp only [zfp, ↓reduceIte, Nat.reduceEqDiff, e3]; try rfl), (by simp only [zfp, ↓reduceIte, Nat.reduceEqDiff, e4]; try rfl), (by simp only [zfp, ↓reduceIte, Nat.reduceEqDiff, e6]; try rfl), (by simp only [zfp, ↓reduceIte, Nat.reduceEqDiff]; try rfl), (by simp only [zfp, ↓reduceIte, Nat.reduceEqDiff, j3]; try rfl), (by simp only [zfp, ↓reduceIte, Nat.reduceEqDiff, j4]; try rfl), (by simp only [zfp, ↓reduceIte, Nat.reduceEqDiff, j6]; try rfl), by omega⟩
  · have hie : i = k := by omega
    subst hie
    have q1 : (i : Int) < 5 := by omega
    have ia := fun t p k xs => iaS5_buf t p k i xs (by omega)
    have ld := fun t k => ldS5 t k i (by omega)
    have f5 := i_add Tryz.prog 3 (i : Int) 1 (by omega) (by omega)
    rw [show (i : Int) + 1 = ((i + 1 : Nat) : Int) by omega] at f5
    have ct := fun D st => callA_trees (cfg := cfg0) (d := D) (s := st) (f := 24) (vs := [.int .i64 ((i + 1 : Nat) : Int), encT t]) rfl (roneA_eq R d hR _ t h1 h2 h3)
    simp only [encT] at ct
    simp only [simB, zbo, Nat.reduceBEq, own0, ↓reduceIte, Nat.reduceEqDiff, Nat.reduceAdd, simA, simL, simN, Nat.zero_add, zev, List.toList_toArray, len9, ix9, zew, zex, zey, zez, zfa, e0, e3, e4, e6, e7, j3, j4, j6, q1, ia_S5, ia, ld, s_eqlS, hk1, f5, ldT_u, ct, zds, st_Tt, stT_6]
    exact finish_T2 _ _ _ _ _ (oneT intT ((i + 1 : Nat) : Int) t).1 _ _ _ _ _ (by simp only [zfp, ↓reduceIte, Nat.reduceEqDiff, e4]; try rfl) (by simp only [zfp, ↓reduceIte, Nat.reduceEqDiff]; try rfl) (by simp only [zfp, ↓reduceIte, Nat.reduceEqDiff]; try rfl) rfl

set_option maxHeartbeats 8000000 in
theorem rones_list_to_tuple (R d : Nat) (hR : 100000 ≤ R) (t : T) (hn : nodT t ≤ 1999) : evalFn Tryz.prog cfg0 R (d+7) 36 [.tree (.str w_list_to_tuple), .tree (encT t)] = some (.tree (.tup [encT (l2tT (tupT .l) t).1, .bool (l2tT (tupT .l) t).2]), [[], []]) := by
  rw [evalFn_go _ Tryz.func36 (by unfold Tryz.f36; rfl) (by unfold Tryz.f36; decide) (Nat.le_of_ble_eq_true (by unfold Tryz.f36; rfl)) (by kernel_rfl)]
  have w0 : (w_list_to_tuple == ([108, 105, 115, 116, 95, 116, 111, 95, 116, 117, 112, 108, 101] : List UInt8)) = true := by decide
  have w1 : (w_list_to_tuple == ([114, 101, 118, 101, 114, 115, 101] : List UInt8)) = false := by decide
  have w2 : (w_list_to_tuple == ([116, 117, 112, 108, 101, 95, 116, 111, 95, 108, 105, 115, 116] : List UInt8)) = false := by decide
  have w3 : (w_list_to_tuple == ([105, 110, 116, 101, 103, 101, 114, 95, 116, 111, 95, 108, 105, 115, 116] : List UInt8)) = false := by decide
  have w4 : (w_list_to_tuple == ([97, 116, 111, 109, 95, 116, 111, 95, 108, 105, 115, 116] : List UInt8)) = false := by decide
  have hnm : ∀ i, i < 5 → (nm5 i == w_list_to_tuple) = false := by decide
  simp only [simB, zbo, Nat.reduceBEq, own0, ↓reduceIte, Nat.reduceEqDiff, Nat.reduceAdd, simA, simL, simN, Nat.zero_add, zev, List.toList_toArray, len9, ix9, zew, zex, zey, zez, zfa, zeroT, zeroS5, bdS5, st_S5, stS5_new, encT, den_loop]
  refine loop_ends (X := Nat) (fun i env st => env 0 = .str w_list_to_tuple ∧ env 3 = .ptr 3 1 0 ∧ env 4 = .ptr 4 1 0 ∧ env 6 = .ptr 6 1 0 ∧ env 7 = .int .i64 (i : Int) ∧ st 3 = ⟨1, .buf (cellsT t)⟩ ∧ st 4 = ⟨1, .buf [.int .i64 0, .bool false, .sl [] 0 .nil, .str [], .int .i64 0, .sl [] 0 .nil]⟩ ∧ st 6 = ⟨1, .buf five⟩ ∧ i ≤ 5) (fun i => 5 - i) (fun _ => (.tree (.tup [encT (l2tT (tupT .l) t).1, .bool (l2tT (tupT .l) t).2]), [[], []])) ?_ R 0 _ _ (by omega) ⟨(by simp only [zfp, ↓reduceIte, Nat.reduceEqDiff, env0, List.getElem?_cons_zero]; try rfl), (by simp only [zfp, ↓reduceIte, Nat.reduceEqDiff]; try rfl), (by simp only [zfp, ↓reduceIte, Nat.reduceEqDiff]; try rfl), (by simp only [zfp, ↓reduceIte, Nat.reduceEqDiff]; try rfl), (by simp only [zfp, ↓reduceIte, Nat.reduceEqDiff]; try rfl), (by simp only [zfp, ↓reduceIte, Nat.reduceEqDiff]; try rfl), (by simp only [zfp, ↓reduceIte, Nat.reduceEqDiff]; try rfl), (by simp only [zfp, ↓reduceIte, Nat.reduceEqDiff]; try rfl), Nat.zero_le _⟩
  intro rr i hr ih env st ⟨e0, e3, e4, e6, e7, j3, j4, j6, hi⟩
  by_cases hlt : i < 5
  · have hb := hnm i hlt
    have q1 : (i : Int) < 5 := by omega
    have ia := fun t p k xs => iaS5_buf t p k i xs (by omega)
    have ld := fun t k => ldS5 t k i (by omega)
    have f5 := i_add Tryz.prog 3 (i : Int) 1 (by omega) (by omega)
    simp only [simB, zbo, Nat.reduceBEq, own0, ↓reduceIte, Nat.reduceEqDiff, Nat.reduceAdd, simL, simN, Nat.zero_add, zev, List.toList_toArray, len9, ix9, zew, zex, zey, zez, zfa, e0, e3, e4, e6, e7, j3, j4, j6, q1, ia_S5, ia, ld, s_eqlS, hb, f5]
    exact ih (i + 1) _ _ (by omega) rfl ⟨(by simp only [zfp, ↓reduceIte, Nat.reduceEqDiff, e0]; try rfl), (by simp only [zfp, ↓reduceIte, Nat.reduceEqDiff, e3]; try rfl), (by simp only [zfp, ↓reduceIte, Nat.reduceEqDiff, e4]; try rfl), (by simp only [zfp, ↓reduceIte, Nat.reduceEqDiff, e6]; try rfl), (by simp only [zfp, ↓reduceIte, Nat.reduceEqDiff]; try rfl), (by simp only [zfp, ↓reduceIte, Nat.reduceEqDiff, j3]; try rfl), (by simp only [zfp, ↓reduceIte, Nat.reduceEqDiff, j4]; try rfl), (by simp only [zfp, ↓reduceIte, Nat.reduceEqDiff, j6]; try rfl), by omega⟩
  have hie : i = 5 := by omega
  subst hie
  have q1 : ¬ ((5 : Nat) : Int) < 5 := by omega
  have ct := fun D st => callA_trees (cfg := cfg0) (d := D) (s := st) (f := 55) (vs := [encT t]) rfl (rItemsA_eq R (d+5) t hn (by omega))
  clear ih
  cases hI : itemsT t with
  | none =>
    rw [hI] at ct
    simp only [encT, itemsV] at ct
    rw [l2t_none (tupT .l) t hI]
    simp only [simB, zbo, Nat.reduceBEq, own0, ↓reduceIte, Nat.reduceEqDiff, Nat.reduceAdd, simA, simL, simN, Nat.zero_add, zev, List.toList_toArray, len9, ix9, zew, zex, zey, zez, zfa, simV, e0, e3, e4, e6, e7, j3, j4, j6, q1, ct, ldT_u, s_eqlS, w0, w1, w2, w3, w4, lenTk, zds, bdT_00, st_Tt, stT_6]
    exact finish_T2 _ _ _ _ _ (T0) _ _ _ _ _ (by simp only [zfp, ↓reduceIte, Nat.reduceEqDiff, e4]; try rfl) (by simp only [zfp, ↓reduceIte, Nat.reduceEqDiff]; try rfl) (by simp only [zfp, ↓reduceIte, Nat.reduceEqDiff]; try rfl) rfl
  | some us =>
    rw [hI] at ct
    simp only [encT, itemsV] at ct
    by_cases hl : us.length ≤ 40
    · have q2 : (us.length : Int) ≤ 40 := by omega
      have ap := fun d s => appN d s us (gr (kgOf us)) (by omega)
      rw [l2t_yes (tupT .l) t us hI hl]
      simp only [simB, zbo, Nat.reduceBEq, own0, ↓reduceIte, Nat.reduceEqDiff, Nat.reduceAdd, simA, simL, simN, Nat.zero_add, zev, List.toList_toArray, len9, ix9, zew, zex, zey, zez, zfa, simV, e0, e3, e4, e6, e7, j3, j4, j6, q1, ct, ldT_u, s_eqlS, w0, w1, w2, w3, w4, lenTk, zds, bdT_00, st_Tt, stT_6, q2, ap, bdT_tupR]
      exact finish_T2 _ _ _ _ _ (tupT .l us) _ _ _ _ _ (by simp only [zfp, ↓reduceIte, Nat.reduceEqDiff, e4]; try rfl) (by simp only [zfp, ↓reduceIte, Nat.reduceEqDiff]; try rfl) (by simp only [zfp, ↓reduceIte, Nat.reduceEqDiff]; try rfl) rfl
    · have q2 : ¬ (us.length : Int) ≤ 40 := by omega
      rw [l2t_no (tupT .l) t us hI hl]
      simp only [simB, zbo, Nat.reduceBEq, own0, ↓reduceIte, Nat.reduceEqDiff, Nat.reduceAdd, simA, simL, simN, Nat.zero_add, zev, List.toList_toArray, len9, ix9, zew, zex, zey, zez, zfa, simV, e0, e3, e4, e6, e7, j3, j4, j6, q1, ct, ldT_u, s_eqlS, w0, w1, w2, w3, w4, lenTk, zds, bdT_00, st_Tt, stT_6, q2]
      exact finish_T2 _ _ _ _ _ (T0) _ _ _ _ _ (by simp only [zfp, ↓reduceIte, Nat.reduceEqDiff, e4]; try rfl) (by simp only [zfp, ↓reduceIte, Nat.reduceEqDiff]; try rfl) (by simp only [zfp, ↓reduceIte, Nat.reduceEqDiff]; try rfl) rfl

set_option maxHeartbeats 8000000 in
theorem rones_tuple_to_list (R d : Nat) (hR : 100000 ≤ R) (t : T) (hn : nodT t ≤ 1999) (hl : (kidsT t).length ≤ 1000000) (hl2 : (kidsT t).length < R) : evalFn Tryz.prog cfg0 R (d+7) 36 [.tree (.str w_tuple_to_list), .tree (encT t)] = some (.tree (.tup [encT (t2lT t).1, .bool (t2lT t).2]), [[], []]) := by
  rw [evalFn_go _ Tryz.func36 (by unfold Tryz.f36; rfl) (by unfold Tryz.f36; decide) (Nat.le_of_ble_eq_true (by unfold Tryz.f36; rfl)) (by kernel_rfl)]
  have w0 : (w_tuple_to_list == ([108, 105, 115, 116, 95, 116, 111, 95, 116, 117, 112, 108, 101] : List UInt8)) = false := by decide
  have w1 : (w_tuple_to_list == ([114, 101, 118, 101, 114, 115, 101] : List UInt8)) = false := by decide
  have w2 : (w_tuple_to_list == ([116, 117, 112, 108, 101, 95, 116, 111, 95, 108, 105, 115, 116] : List UInt8)) = true := by decide
  have w3 : (w_tuple_to_list == ([105, 110, 116, 101, 103, 101, 114, 95, 116, 111, 95, 108, 105, 115, 116] : List UInt8)) = false := by decide
  have w4 : (w_tuple_to_list == ([97, 116, 111, 109, 95, 116, 111, 95, 108, 105, 115, 116] : List UInt8)) = false := by decide
  have hnm : ∀ i, i < 5 → (nm5 i == w_tuple_to_list) = false := by decide
  simp only [simB, zbo, Nat.reduceBEq, own0, ↓reduceIte, Nat.reduceEqDiff, Nat.reduceAdd, simA, simL, simN, Nat.zero_add, zev, List.toList_toArray, len9, ix9, zew, zex, zey, zez, zfa, zeroT, zeroS5, bdS5, st_S5, stS5_new, encT, den_loop]
  refine loop_ends (X := Nat) (fun i env st => env 0 = .str w_tuple_to_list ∧ env 3 = .ptr 3 1 0 ∧ env 4 = .ptr 4 1 0 ∧ env 6 = .ptr 6 1 0 ∧ env 7 = .int .i64 (i : Int) ∧ st 3 = ⟨1, .buf (cellsT t)⟩ ∧ st 4 = ⟨1, .buf [.int .i64 0, .bool false, .sl [] 0 .nil, .str [], .int .i64 0, .sl [] 0 .nil]⟩ ∧ st 6 = ⟨1, .buf five⟩ ∧ i ≤ 5) (fun i => 5 - i) (fun _ => (.tree (.tup [encT (t2lT t).1, .bool (t2lT t).2]), [[], []])) ?_ R 0 _ _ (by omega) ⟨(by simp only [zfp, ↓reduceIte, Nat.reduceEqDiff, env0, List.getElem?_cons_zero]; try rfl), (by simp only [zfp, ↓reduceIte, Nat.reduceEqDiff]; try rfl), (by simp only [zfp, ↓reduceIte, Nat.reduceEqDiff]; try rfl), (by simp only [zfp, ↓reduceIte, Nat.reduceEqDiff]; try rfl), (by simp only [zfp, ↓reduceIte, Nat.reduceEqDiff]; try rfl), (by simp only [zfp, ↓reduceIte, Nat.reduceEqDiff]; try rfl), (by simp only [zfp, ↓reduceIte, Nat.reduceEqDiff]; try rfl), (by simp only [zfp, ↓reduceIte, Nat.reduceEqDiff]; try rfl), Nat.zero_le _⟩
  intro rr i hr ih env st ⟨e0, e3, e4, e6, e7, j3, j4, j6, hi⟩
  by_cases hlt : i < 5
  · have hb := hnm i hlt
    have q1 : (i : Int) < 5 := by omega
    have ia := fun t p k xs => iaS5_buf t p k i xs (by omega)
    have ld := fun t k => ldS5 t k i (by omega)
    have f5 := i_add Tryz.prog 3 (i : Int) 1 (by omega) (by omega)
    simp only [simB, zbo, Nat.reduceBEq, own0, ↓reduceIte, Nat.reduceEqDiff, Nat.reduceAdd, simL, simN, Nat.zero_add, zev, List.toList_toArray, len9, ix9, zew, zex, zey, zez, zfa, e0, e3, e4, e6, e7, j3, j4, j6, q1, ia_S5, ia, ld, s_eqlS, hb, f5]
    exact ih (i + 1) _ _ (by omega) rfl ⟨(by simp only [zfp, ↓reduceIte, Nat.reduceEqDiff, e0]; try rfl), (by simp only [zfp, ↓reduceIte, Nat.reduceEqDiff, e3]; try rfl), (by simp only [zfp, ↓reduceIte, Nat.reduceEqDiff, e4]; try rfl), (by simp only [zfp, ↓reduceIte, Nat.reduceEqDiff, e6]; try rfl), (by simp only [zfp, ↓reduceIte, Nat.reduceEqDiff]; try rfl), (by simp only [zfp, ↓reduceIte, Nat.reduceEqDiff, j3]; try rfl), (by simp only [zfp, ↓reduceIte, Nat.reduceEqDiff, j4]; try rfl), (by simp only [zfp, ↓reduceIte, Nat.reduceEqDiff, j6]; try rfl), by omega⟩
  have hie : i = 5 := by omega
  subst hie
  have q1 : ¬ ((5 : Nat) : Int) < 5 := by omega
  have ct := fun D st => callA_trees (cfg := cfg0) (d := D) (s := st) (f := 55) (vs := [encT t]) rfl (rItemsA_eq R (d+5) t hn (by omega))
  clear ih
  obtain ⟨sl, bb, hV⟩ := itemsV_tup (itemsT t)
  rw [hV] at ct
  obtain ⟨k, n1, lg, l, s1, i1, kg, ks⟩ := t
  simp only [cellsT] at j3
  simp only [encT, cellsT] at ct
  by_cases hk : k = 5
  · subst hk
    have hT := okTreeW ks (gr kg) (by cases kg <;> rfl)
    have cl := fun D st => callA_trees (cfg := cfg0) (d := D) (s := st) (f := 16) (vs := [.sl (cellsK ks) ks.length (gr kg), encT nilT']) (by simp only [List.all_cons, hT]; rfl) (rList_eq R (d+5) ks (gr kg) nilT' hl2 hl)
    simp only [encT] at cl
    rw [t2l_yes _ rfl]
    simp only [simB, zbo, Nat.reduceBEq, own0, ↓reduceIte, Nat.reduceEqDiff, Nat.reduceAdd, simA, simL, simN, Nat.zero_add, zev, List.toList_toArray, len9, ix9, zew, zex, zey, zez, zfa, e0, e3, e4, e6, e7, j3, j4, j6, q1, ct, cellsT, ldT_a, ldT_0, ldT_1, ldT_2, ldT_4, faT_0, faT_1, faT_2, faT_4, Nat.reduceAdd, i_eqlV, Int.reduceBEq, s_eqlS, w0, w1, w2, w3, w4, lenTk, zds, bdT_00, st_Tt, stT_6, bdN3, cl]
    exact finish_T2 _ _ _ _ _ (listT ks nilT') _ _ _ _ _ (by simp only [zfp, ↓reduceIte, Nat.reduceEqDiff, e4]; try rfl) (by simp only [zfp, ↓reduceIte, Nat.reduceEqDiff]; try rfl) (by simp only [zfp, ↓reduceIte, Nat.reduceEqDiff]; try rfl) rfl
  · have b5 : (k == 5) = false := beq_eq_false_iff_ne.mpr hk
    rw [t2l_no (.mk k n1 lg l s1 i1 kg ks) hk]
    simp only [simB, zbo, Nat.reduceBEq, own0, ↓reduceIte, Nat.reduceEqDiff, Nat.reduceAdd, simA, simL, simN, Nat.zero_add, zev, List.toList_toArray, len9, ix9, zew, zex, zey, zez, zfa, e0, e3, e4, e6, e7, j3, j4, j6, q1, ct, cellsT, ldT_a, ldT_0, ldT_1, ldT_2, ldT_4, faT_0, faT_1, faT_2, faT_4, Nat.reduceAdd, i_eqlV, Int.reduceBEq, s_eqlS, w0, w1, w2, w3, w4, lenTk, zds, bdT_00, st_Tt, stT_6, b5]
    exact finish_T2 _ _ _ _ _ (T0) _ _ _ _ _ (by simp only [zfp, ↓reduceIte, Nat.reduceEqDiff, e4]; try rfl) (by simp only [zfp, ↓reduceIte, Nat.reduceEqDiff]; try rfl) (by simp only [zfp, ↓reduceIte, Nat.reduceEqDiff]; try rfl) rfl

set_option maxHeartbeats 8000000 in
theorem rones_integer_to_list (R d : Nat) (hR : 100000 ≤ R) (t : T) (hn : nodT t ≤ 1999) (hl : Limbs (limT t)) (hlt2 : (textZ (zOfT t)).length ≤ 10000) : evalFn Tryz.prog cfg0 R (d+7) 36 [.tree (.str w_integer_to_list), .tree (encT t)] = some (.tree (.tup [encT (itlT itxT t).1, .bool (itlT itxT t).2]), [[], []]) := by
  rw [evalFn_go _ Tryz.func36 (by unfold Tryz.f36; rfl) (by unfold Tryz.f36; decide) (Nat.le_of_ble_eq_true (by unfold Tryz.f36; rfl)) (by kernel_rfl)]
  have w0 : (w_integer_to_list == ([108, 105, 115, 116, 95, 116, 111, 95, 116, 117, 112, 108, 101] : List UInt8)) = false := by decide
  have w1 : (w_integer_to_list == ([114, 101, 118, 101, 114, 115, 101] : List UInt8)) = false := by decide
  have w2 : (w_integer_to_list == ([116, 117, 112, 108, 101, 95, 116, 111, 95, 108, 105, 115, 116] : List UInt8)) = false := by decide
  have w3 : (w_integer_to_list == ([105, 110, 116, 101, 103, 101, 114, 95, 116, 111, 95, 108, 105, 115, 116] : List UInt8)) = true := by decide
  have w4 : (w_integer_to_list == ([97, 116, 111, 109, 95, 116, 111, 95, 108, 105, 115, 116] : List UInt8)) = false := by decide
  have hnm : ∀ i, i < 5 → (nm5 i == w_integer_to_list) = false := by decide
  simp only [simB, zbo, Nat.reduceBEq, own0, ↓reduceIte, Nat.reduceEqDiff, Nat.reduceAdd, simA, simL, simN, Nat.zero_add, zev, List.toList_toArray, len9, ix9, zew, zex, zey, zez, zfa, zeroT, zeroS5, bdS5, st_S5, stS5_new, encT, den_loop]
  refine loop_ends (X := Nat) (fun i env st => env 0 = .str w_integer_to_list ∧ env 3 = .ptr 3 1 0 ∧ env 4 = .ptr 4 1 0 ∧ env 6 = .ptr 6 1 0 ∧ env 7 = .int .i64 (i : Int) ∧ st 3 = ⟨1, .buf (cellsT t)⟩ ∧ st 4 = ⟨1, .buf [.int .i64 0, .bool false, .sl [] 0 .nil, .str [], .int .i64 0, .sl [] 0 .nil]⟩ ∧ st 6 = ⟨1, .buf five⟩ ∧ i ≤ 5) (fun i => 5 - i) (fun _ => (.tree (.tup [encT (itlT itxT t).1, .bool (itlT itxT t).2]), [[], []])) ?_ R 0 _ _ (by omega) ⟨(by simp only [zfp, ↓reduceIte, Nat.reduceEqDiff, env0, List.getElem?_cons_zero]; try rfl), (by simp only [zfp, ↓reduceIte, Nat.reduceEqDiff]; try rfl), (by simp only [zfp, ↓reduceIte, Nat.reduceEqDiff]; try rfl), (by simp only [zfp, ↓reduceIte, Nat.reduceEqDiff]; try rfl), (by simp only [zfp, ↓reduceIte, Nat.reduceEqDiff]; try rfl), (by simp only [zfp, ↓reduceIte, Nat.reduceEqDiff]; try rfl), (by simp only [zfp, ↓reduceIte, Nat.reduceEqDiff]; try rfl), (by simp only [zfp, ↓reduceIte, Nat.reduceEqDiff]; try rfl), Nat.zero_le _⟩
  intro rr i hr ih env st ⟨e0, e3, e4, e6, e7, j3, j4, j6, hi⟩
  by_cases hlt : i < 5
  · have hb := hnm i hlt
    have q1 : (i : Int) < 5 := by omega
    have ia := fun t p k xs => iaS5_buf t p k i xs (by omega)
    have ld := fun t k => ldS5 t k i (by omega)
    have f5 := i_add Tryz.prog 3 (i : Int) 1 (by omega) (by omega)
    simp only [simB, zbo, Nat.reduceBEq, own0, ↓reduceIte, Nat.reduceEqDiff, Nat.reduceAdd, simL, simN, Nat.zero_add, zev, List.toList_toArray, len9, ix9, zew, zex, zey, zez, zfa, e0, e3, e4, e6, e7, j3, j4, j6, q1, ia_S5, ia, ld, s_eqlS, hb, f5]
    exact ih (i + 1) _ _ (by omega) rfl ⟨(by simp only [zfp, ↓reduceIte, Nat.reduceEqDiff, e0]; try rfl), (by simp only [zfp, ↓reduceIte, Nat.reduceEqDiff, e3]; try rfl), (by simp only [zfp, ↓reduceIte, Nat.reduceEqDiff, e4]; try rfl), (by simp only [zfp, ↓reduceIte, Nat.reduceEqDiff, e6]; try rfl), (by simp only [zfp, ↓reduceIte, Nat.reduceEqDiff]; try rfl), (by simp only [zfp, ↓reduceIte, Nat.reduceEqDiff, j3]; try rfl), (by simp only [zfp, ↓reduceIte, Nat.reduceEqDiff, j4]; try rfl), (by simp only [zfp, ↓reduceIte, Nat.reduceEqDiff, j6]; try rfl), by omega⟩
  have hie : i = 5 := by omega
  subst hie
  have q1 : ¬ ((5 : Nat) : Int) < 5 := by omega
  have ct := fun D st => callA_trees (cfg := cfg0) (d := D) (s := st) (f := 55) (vs := [encT t]) rfl (rItemsA_eq R (d+5) t hn (by omega))
  clear ih
  obtain ⟨sl, bb, hV⟩ := itemsV_tup (itemsT t)
  rw [hV] at ct
  obtain ⟨k, n1, lg, l, s1, i1, kg, ks⟩ := t
  simp only [cellsT] at j3
  simp only [encT, cellsT] at ct
  simp only [zOfT, sgnT, limT] at hlt2 hl
  by_cases hk : k = 1
  · subst hk
    have cx := fun D st => callA_trees (cfg := cfg0) (d := D) (s := st) (f := 66) (vs := [encA n1 lg l]) (by cases lg <;> rfl) (rtext_eq R (d+1) (by omega) (isN_A n1 lg l hl))
    have cb := fun D st => callA_trees (cfg := cfg0) (d := D) (s := st) (f := 65) (vs := [.str (textZ (numZ n1 l))]) rfl (rtext19_eq R (d+1) (by omega) _ hlt2)
    simp only [encT, encA] at cx cb
    rw [itl_yes itxT (.mk 1 n1 lg l s1 i1 kg ks) rfl]
    simp only [simB, zbo, Nat.reduceBEq, own0, ↓reduceIte, Nat.reduceEqDiff, Nat.reduceAdd, simA, simL, simN, Nat.zero_add, zev, List.toList_toArray, len9, ix9, zew, zex, zey, zez, zfa, e0, e3, e4, e6, e7, j3, j4, j6, q1, ct, cellsT, ldT_a, ldT_0, ldT_1, ldT_2, ldT_4, faT_0, faT_1, faT_2, faT_4, Nat.reduceAdd, i_eqlV, Int.reduceBEq, s_eqlS, w0, w1, w2, w3, w4, lenTk, zds, bdT_00, st_Tt, stT_6, cx, cb]
    exact finish_T2 _ _ _ _ _ (listT (itxT (textZ (numZ n1 l))) nilT') _ _ _ _ _ (by simp only [zfp, ↓reduceIte, Nat.reduceEqDiff, e4]; try rfl) (by simp only [zfp, ↓reduceIte, Nat.reduceEqDiff]; try rfl) (by simp only [zfp, ↓reduceIte, Nat.reduceEqDiff]; try rfl) rfl
  · have b5 : (k == 1) = false := beq_eq_false_iff_ne.mpr hk
    rw [itl_no itxT (.mk k n1 lg l s1 i1 kg ks) hk]
    simp only [simB, zbo, Nat.reduceBEq, own0, ↓reduceIte, Nat.reduceEqDiff, Nat.reduceAdd, simA, simL, simN, Nat.zero_add, zev, List.toList_toArray, len9, ix9, zew, zex, zey, zez, zfa, e0, e3, e4, e6, e7, j3, j4, j6, q1, ct, cellsT, ldT_a, ldT_0, ldT_1, ldT_2, ldT_4, faT_0, faT_1, faT_2, faT_4, Nat.reduceAdd, i_eqlV, Int.reduceBEq, s_eqlS, w0, w1, w2, w3, w4, lenTk, zds, bdT_00, st_Tt, stT_6, b5]
    exact finish_T2 _ _ _ _ _ (T0) _ _ _ _ _ (by simp only [zfp, ↓reduceIte, Nat.reduceEqDiff, e4]; try rfl) (by simp only [zfp, ↓reduceIte, Nat.reduceEqDiff]; try rfl) (by simp only [zfp, ↓reduceIte, Nat.reduceEqDiff]; try rfl) rfl

set_option maxHeartbeats 8000000 in
theorem rones_atom_to_list (R d : Nat) (hR : 100000 ≤ R) (t : T) (hn : nodT t ≤ 1999) (hlt2 : (strT t).length ≤ 10000) : evalFn Tryz.prog cfg0 R (d+7) 36 [.tree (.str w_atom_to_list), .tree (encT t)] = some (.tree (.tup [encT (atlT itxT t).1, .bool (atlT itxT t).2]), [[], []]) := by
  rw [evalFn_go _ Tryz.func36 (by unfold Tryz.f36; rfl) (by unfold Tryz.f36; decide) (Nat.le_of_ble_eq_true (by unfold Tryz.f36; rfl)) (by kernel_rfl)]
  have w0 : (w_atom_to_list == ([108, 105, 115, 116, 95, 116, 111, 95, 116, 117, 112, 108, 101] : List UInt8)) = false := by decide
  have w1 : (w_atom_to_list == ([114, 101, 118, 101, 114, 115, 101] : List UInt8)) = false := by decide
  have w2 : (w_atom_to_list == ([116, 117, 112, 108, 101, 95, 116, 111, 95, 108, 105, 115, 116] : List UInt8)) = false := by decide
  have w3 : (w_atom_to_list == ([105, 110, 116, 101, 103, 101, 114, 95, 116, 111, 95, 108, 105, 115, 116] : List UInt8)) = false := by decide
  have w4 : (w_atom_to_list == ([97, 116, 111, 109, 95, 116, 111, 95, 108, 105, 115, 116] : List UInt8)) = true := by decide
  have hnm : ∀ i, i < 5 → (nm5 i == w_atom_to_list) = false := by decide
  simp only [simB, zbo, Nat.reduceBEq, own0, ↓reduceIte, Nat.reduceEqDiff, Nat.reduceAdd, simA, simL, simN, Nat.zero_add, zev, List.toList_toArray, len9, ix9, zew, zex, zey, zez, zfa, zeroT, zeroS5, bdS5, st_S5, stS5_new, encT, den_loop]
  refine loop_ends (X := Nat) (fun i env st => env 0 = .str w_atom_to_list ∧ env 3 = .ptr 3 1 0 ∧ env 4 = .ptr 4 1 0 ∧ env 6 = .ptr 6 1 0 ∧ env 7 = .int .i64 (i : Int) ∧ st 3 = ⟨1, .buf (cellsT t)⟩ ∧ st 4 = ⟨1, .buf [.int .i64 0, .bool false, .sl [] 0 .nil, .str [], .int .i64 0, .sl [] 0 .nil]⟩ ∧ st 6 = ⟨1, .buf five⟩ ∧ i ≤ 5) (fun i => 5 - i) (fun _ => (.tree (.tup [encT (atlT itxT t).1, .bool (atlT itxT t).2]), [[], []])) ?_ R 0 _ _ (by omega) ⟨(by simp only [zfp, ↓reduceIte, Nat.reduceEqDiff, env0, List.getElem?_cons_zero]; try rfl), (by simp only [zfp, ↓reduceIte, Nat.reduceEqDiff]; try rfl), (by simp only [zfp, ↓reduceIte, Nat.reduceEqDiff]; try rfl), (by simp only [zfp, ↓reduceIte, Nat.reduceEqDiff]; try rfl), (by simp only [zfp, ↓reduceIte, Nat.reduceEqDiff]; try rfl), (by simp only [zfp, ↓reduceIte, Nat.reduceEqDiff]; try rfl), (by simp only [zfp, ↓reduceIte, Nat.reduceEqDiff]; try rfl), (by simp only [zfp, ↓reduceIte, Nat.reduceEqDiff]; try rfl), Nat.zero_le _⟩
  intro rr i hr ih env st ⟨e0, e3, e4, e6, e7, j3, j4, j6, hi⟩
  by_cases hlt : i < 5
  · have hb := hnm i hlt
    have q1 : (i : Int) < 5 := by omega
    have ia := fun t p k xs => iaS5_buf t p k i xs (by omega)
    have ld := fun t k => ldS5 t k i (by omega)
    have f5 := i_add Tryz.prog 3 (i : Int) 1 (by omega) (by omega)
    simp only [simB, zbo, Nat.reduceBEq, own0, ↓reduceIte, Nat.reduceEqDiff, Nat.reduceAdd, simL, simN, Nat.zero_add, zev, List.toList_toArray, len9, ix9, zew, zex, zey, zez, zfa, e0, e3, e4, e6, e7, j3, j4, j6, q1, ia_S5, ia, ld, s_eqlS, hb, f5]
    exact ih (i + 1) _ _ (by omega) rfl ⟨(by simp only [zfp, ↓reduceIte, Nat.reduceEqDiff, e0]; try rfl), (by simp only [zfp, ↓reduceIte, Nat.reduceEqDiff, e3]; try rfl), (by simp only [zfp, ↓reduceIte, Nat.reduceEqDiff, e4]; try rfl), (by simp only [zfp, ↓reduceIte, Nat.reduceEqDiff, e6]; try rfl), (by simp only [zfp, ↓reduceIte, Nat.reduceEqDiff]; try rfl), (by simp only [zfp, ↓reduceIte, Nat.reduceEqDiff, j3]; try rfl), (by simp only [zfp, ↓reduceIte, Nat.reduceEqDiff, j4]; try rfl), (by simp only [zfp, ↓reduceIte, Nat.reduceEqDiff, j6]; try rfl), by omega⟩
  have hie : i = 5 := by omega
  subst hie
  have q1 : ¬ ((5 : Nat) : Int) < 5 := by omega
  have ct := fun D st => callA_trees (cfg := cfg0) (d := D) (s := st) (f := 55) (vs := [encT t]) rfl (rItemsA_eq R (d+5) t hn (by omega))
  clear ih
  obtain ⟨sl, bb, hV⟩ := itemsV_tup (itemsT t)
  rw [hV] at ct
  obtain ⟨k, n1, lg, l, s1, i1, kg, ks⟩ := t
  simp only [cellsT] at j3
  simp only [encT, cellsT] at ct
  simp only [strT] at hlt2
  by_cases hk : k = 2
  · subst hk
    have cb := fun D st => callA_trees (cfg := cfg0) (d := D) (s := st) (f := 65) (vs := [.str s1]) rfl (rtext19_eq R (d+1) (by omega) _ hlt2)
    simp only [encT] at cb
    rw [atl_yes itxT (.mk 2 n1 lg l s1 i1 kg ks) rfl]
    simp only [simB, zbo, Nat.reduceBEq, own0, ↓reduceIte, Nat.reduceEqDiff, Nat.reduceAdd, simA, simL, simN, Nat.zero_add, zev, List.toList_toArray, len9, ix9, zew, zex, zey, zez, zfa, e0, e3, e4, e6, e7, j3, j4, j6, q1, ct, cellsT, ldT_a, ldT_0, ldT_1, ldT_2, ldT_4, faT_0, faT_1, faT_2, faT_4, Nat.reduceAdd, i_eqlV, Int.reduceBEq, s_eqlS, w0, w1, w2, w3, w4, lenTk, zds, bdT_00, st_Tt, stT_6, cb]
    exact finish_T2 _ _ _ _ _ (listT (itxT s1) nilT') _ _ _ _ _ (by simp only [zfp, ↓reduceIte, Nat.reduceEqDiff, e4]; try rfl) (by simp only [zfp, ↓reduceIte, Nat.reduceEqDiff]; try rfl) (by simp only [zfp, ↓reduceIte, Nat.reduceEqDiff]; try rfl) rfl
  · have b5 : (k == 2) = false := beq_eq_false_iff_ne.mpr hk
    rw [atl_no itxT (.mk k n1 lg l s1 i1 kg ks) hk]
    simp only [simB, zbo, Nat.reduceBEq, own0, ↓reduceIte, Nat.reduceEqDiff, Nat.reduceAdd, simA, simL, simN, Nat.zero_add, zev, List.toList_toArray, len9, ix9, zew, zex, zey, zez, zfa, e0, e3, e4, e6, e7, j3, j4, j6, q1, ct, cellsT, ldT_a, ldT_0, ldT_1, ldT_2, ldT_4, faT_0, faT_1, faT_2, faT_4, Nat.reduceAdd, i_eqlV, Int.reduceBEq, s_eqlS, w0, w1, w2, w3, w4, lenTk, zds, bdT_00, st_Tt, stT_6, b5]
    exact finish_T2 _ _ _ _ _ (T0) _ _ _ _ _ (by simp only [zfp, ↓reduceIte, Nat.reduceEqDiff, e4]; try rfl) (by simp only [zfp, ↓reduceIte, Nat.reduceEqDiff]; try rfl) (by simp only [zfp, ↓reduceIte, Nat.reduceEqDiff]; try rfl) rfl

set_option maxHeartbeats 8000000 in
theorem rones_reverse (R d : Nat) (hR : 100000 ≤ R) (t : T) (hn : nodT t ≤ 1999) : evalFn Tryz.prog cfg0 R (d+7) 36 [.tree (.str w_reverse), .tree (encT t)] = some (.tree (.tup [encT (revT t).1, .bool (revT t).2]), [[], []]) := by
  rw [evalFn_go _ Tryz.func36 (by unfold Tryz.f36; rfl) (by unfold Tryz.f36; decide) (Nat.le_of_ble_eq_true (by unfold Tryz.f36; rfl)) (by kernel_rfl)]
  have w0 : (w_reverse == ([108, 105, 115, 116, 95, 116, 111, 95, 116, 117, 112, 108, 101] : List UInt8)) = false := by decide
  have w1 : (w_reverse == ([114, 101, 118, 101, 114, 115, 101] : List UInt8)) = true := by decide
  have w2 : (w_reverse == ([116, 117, 112, 108, 101, 95, 116, 111, 95, 108, 105, 115, 116] : List UInt8)) = false := by decide
  have w3 : (w_reverse == ([105, 110, 116, 101, 103, 101, 114, 95, 116, 111, 95, 108, 105, 115, 116] : List UInt8)) = false := by decide
  have w4 : (w_reverse == ([97, 116, 111, 109, 95, 116, 111, 95, 108, 105, 115, 116] : List UInt8)) = false := by decide
  have hnm : ∀ i, i < 5 → (nm5 i == w_reverse) = false := by decide
  simp only [simB, zbo, Nat.reduceBEq, own0, ↓reduceIte, Nat.reduceEqDiff, Nat.reduceAdd, simA, simL, simN, Nat.zero_add, zev, List.toList_toArray, len9, ix9, zew, zex, zey, zez, zfa, zeroT, zeroS5, bdS5, st_S5, stS5_new, encT, den_loop]
  refine loop_ends (X := Nat) (fun i env st => env 0 = .str w_reverse ∧ env 3 = .ptr 3 1 0 ∧ env 4 = .ptr 4 1 0 ∧ env 6 = .ptr 6 1 0 ∧ env 7 = .int .i64 (i : Int) ∧ st 3 = ⟨1, .buf (cellsT t)⟩ ∧ st 4 = ⟨1, .buf [.int .i64 0, .bool false, .sl [] 0 .nil, .str [], .int .i64 0, .sl [] 0 .nil]⟩ ∧ st 6 = ⟨1, .buf five⟩ ∧ i ≤ 5) (fun i => 5 - i) (fun _ => (.tree (.tup [encT (revT t).1, .bool (revT t).2]), [[], []])) ?_ R 0 _ _ (by omega) ⟨(by simp only [zfp, ↓reduceIte, Nat.reduceEqDiff, env0, List.getElem?_cons_zero]; try rfl), (by simp only [zfp, ↓reduceIte, Nat.reduceEqDiff]; try rfl), (by simp only [zfp, ↓reduceIte, Nat.reduceEqDiff]; try rfl), (by simp only [zfp, ↓reduceIte, Nat.reduceEqDiff]; try rfl), (by simp only [zfp, ↓reduceIte, Nat.reduceEqDiff]; try rfl), (by simp only [zfp, ↓reduceIte, Nat.reduceEqDiff]; try rfl), (by simp only [zfp, ↓reduceIte, Nat.reduceEqDiff]; try rfl), (by simp only [zfp, ↓reduceIte, Nat.reduceEqDiff]; try rfl), Nat.zero_le _⟩
  intro rr i hr ih env st ⟨e0, e3, e4, e6, e7, j3, j4, j6, hi⟩
  by_cases hlt : i < 5
  · have hb := hnm i hlt
    have q1 : (i : Int) < 5 := by omega
    have ia := fun t p k xs => iaS5_buf t p k i xs (by omega)
    have ld := fun t k => ldS5 t k i (by omega)
    have f5 := i_add Tryz.prog 3 (i : Int) 1 (by omega) (by omega)
    simp only [simB, zbo, Nat.reduceBEq, own0, ↓reduceIte, Nat.reduceEqDiff, Nat.reduceAdd, simL, simN, Nat.zero_add, zev, List.toList_toArray, len9, ix9, zew, zex, zey, zez, zfa, e0, e3, e4, e6, e7, j3, j4, j6, q1, ia_S5, ia, ld, s_eqlS, hb, f5]
    exact ih (i + 1) _ _ (by omega) rfl ⟨(by simp only [zfp, ↓reduceIte, Nat.reduceEqDiff, e0]; try rfl), (by simp only [zfp, ↓reduceIte, Nat.reduceEqDiff, e3]; try rfl), (by simp only [zfp, ↓reduceIte, Nat.reduceEqDiff, e4]; try rfl), (by simp only [zfp, ↓reduceIte, Nat.reduceEqDiff, e6]; try rfl), (by simp only [zfp, ↓reduceIte, Nat.reduceEqDiff]; try rfl), (by simp only [zfp, ↓reduceIte, Nat.reduceEqDiff, j3]; try rfl), (by simp only [zfp, ↓reduceIte, Nat.reduceEqDiff, j4]; try rfl), (by simp only [zfp, ↓reduceIte, Nat.reduceEqDiff, j6]; try rfl), by omega⟩
  have hie : i = 5 := by omega
  subst hie
  have q1 : ¬ ((5 : Nat) : Int) < 5 := by omega
  have ct := fun D st => callA_trees (cfg := cfg0) (d := D) (s := st) (f := 55) (vs := [encT t]) rfl (rItemsA_eq R (d+5) t hn (by omega))
  clear ih
  cases hI : itemsT t with
  | none =>
    rw [hI] at ct
    simp only [encT, itemsV] at ct
    rw [rev_no t hI]
    simp only [simB, zbo, Nat.reduceBEq, own0, ↓reduceIte, Nat.reduceEqDiff, Nat.reduceAdd, simA, simL, simN, Nat.zero_add, zev, List.toList_toArray, len9, ix9, zew, zex, zey, zez, zfa, simV, e0, e3, e4, e6, e7, j3, j4, j6, q1, ct, ldT_u, s_eqlS, w0, w1, w2, w3, w4, lenTk, zds, bdT_00, st_Tt, stT_6]
    exact finish_T2 _ _ _ _ _ (T0) _ _ _ _ _ (by simp only [zfp, ↓reduceIte, Nat.reduceEqDiff, e4]; try rfl) (by simp only [zfp, ↓reduceIte, Nat.reduceEqDiff]; try rfl) (by simp only [zfp, ↓reduceIte, Nat.reduceEqDiff]; try rfl) rfl
  | some us =>
    rw [hI] at ct
    simp only [encT, itemsV] at ct
    have hil := items_len t us hI
    rw [rev_yes t us hI]
    have f6 := i_sub Tryz.prog 3 (us.length : Int) 1 (by omega) (by omega)
    simp only [simB, zbo, Nat.reduceBEq, own0, ↓reduceIte, Nat.reduceEqDiff, Nat.reduceAdd, simA, simL, simN, Nat.zero_add, zev, List.toList_toArray, len9, ix9, zew, zex, zey, zez, zfa, simV, e0, e3, e4, e6, e7, j3, j4, j6, q1, ct, ldT_u, s_eqlS, w0, w1, w2, w3, w4, lenTk, zds, bdT_00, st_Tt, stT_6, f6, den_loop]
    refine loop_ends (X := Nat) (fun j env st => env 4 = .ptr 4 1 0 ∧ st 4 = ⟨1, .buf [.int .i64 0, .bool false, .sl [] 0 .nil, .str [], .int .i64 0, .sl [] 0 .nil]⟩ ∧ env 8 = .sl (cellsK us) us.length (gr (kgOf us)) ∧ env 11 = .int .i64 ((us.length : Int) - 1 - j) ∧ Ap st 101 (env 10) (us.reverse.take j) ∧ j ≤ us.length) (fun j => us.length - j) (fun _ => (.tree (.tup [encT (listT us.reverse nilT'), .bool true]), [[], []])) ?_ R 0 _ _ (by omega) ⟨(by simp only [zfp, ↓reduceIte, Nat.reduceEqDiff, e4]; try rfl), (by simp only [zfp, ↓reduceIte, Nat.reduceEqDiff, j4]; try rfl), (by simp only [zfp, ↓reduceIte, Nat.reduceEqDiff]; try rfl), by rw [show (us.length : Int) - 1 - (0 : Nat) = (us.length : Int) - 1 by omega]; exact (by simp only [zfp, ↓reduceIte, Nat.reduceEqDiff]; try rfl), .inl ⟨rfl, (by simp only [zfp, ↓reduceIte, Nat.reduceEqDiff]; try rfl)⟩, Nat.zero_le _⟩
    clear j3 j4 j6 e0 e3 e4 e6 e7
    intro rr j hr ih env st ⟨e4, j4, e8, e11, ap, hj⟩
    by_cases hlt : j < us.length
    · have q1 : ((us.length : Int) - 1 - j) ≥ 0 := by omega
      have hlr : j < us.reverse.length := by rw [List.length_reverse]; exact hlt
      have hlt' : us.length - 1 - j < us.length := by omega
      have ia := fun st => ia_K st us (gr (kgOf us)) (us.length - 1 - j) hlt'
      rw [List.drop_eq_getElem_cons hlt', show ((us.length - 1 - j : Nat) : Int) = (us.length : Int) - 1 - j by omega] at ia
      have ld := fun st => ld_KW st us[us.length - 1 - j] (us.drop (us.length - 1 - j + 1))
      obtain ⟨x', s', a1, a2, a3⟩ := ap.push (by rw [List.length_take, List.length_reverse]; omega) us[us.length - 1 - j]
      have f5 := i_sub Tryz.prog 3 ((us.length : Int) - 1 - j) 1 (by omega) (by omega)
      have hm : us.reverse.take (j + 1) = us.reverse.take j ++ [us[us.length - 1 - j]] := by
        rw [List.take_succ_eq_append_getElem hlr, List.getElem_reverse]
      simp only [simB, zbo, Nat.reduceBEq, own0, ↓reduceIte, Nat.reduceEqDiff, Nat.reduceAdd, simL, simN, Nat.zero_add, e4, e8, e11, q1, ia, ld, opA_one26, one26_T, a1, f5]
      exact ih (j + 1) _ _ (by omega) rfl ⟨(by simp only [zfp, ↓reduceIte, Nat.reduceEqDiff, e4]; try rfl), by rw [a3 4 (by decide)]; exact j4, (by simp only [zfp, ↓reduceIte, Nat.reduceEqDiff, e8]; try rfl), by rw [show (us.length : Int) - 1 - ((j + 1 : Nat) : Int) = (us.length : Int) - 1 - j - 1 by omega]; exact (by simp only [zfp, ↓reduceIte, Nat.reduceEqDiff]; try rfl), by rw [hm]; exact a2, by omega⟩
    · have hje : j = us.length := by omega
      subst hje
      have q1 : ¬ ((us.length : Int) - 1 - (us.length : Int)) ≥ 0 := by omega
      rw [show us.reverse.take us.length = us.reverse from List.take_of_length_le (by rw [List.length_reverse]; omega)] at ap
      obtain ⟨hl1, hl2⟩ := ap.lent
      have cl := fun D st => callA_loose (call := evalFn Tryz.prog cfg0 R (d+6)) (d := D) (s := st) (f := 16) (vs := [env 10, encT nilT']) (vs' := [.sl (cellsK us.reverse) us.reverse.length (gr (kgOf us.reverse)), encT nilT']) (by simp only [List.all_cons, hl1, encT, lent_T, List.all_nil, Bool.and_self]) (by simp only [List.map_cons, hl2]; rfl) (rList_eq R (d+5) us.reverse _ nilT' (by rw [List.length_reverse]; omega) (by rw [List.length_reverse]; omega))
      simp only [encT] at cl
      simp only [simB, zbo, Nat.reduceBEq, own0, ↓reduceIte, Nat.reduceEqDiff, Nat.reduceAdd, simL, simN, Nat.zero_add, e4, j4, e8, e11, q1, bdN3, cl, st_Tt, stT_6]
      exact finish_T2 _ _ _ _ _ (listT us.reverse nilT') _ _ _ _ _ (by simp only [zfp, ↓reduceIte, Nat.reduceEqDiff, e4]; try rfl) (by simp only [zfp, ↓reduceIte, Nat.reduceEqDiff]; try rfl) (by simp only [zfp, ↓reduceIte, Nat.reduceEqDiff]; try rfl) rfl
end Go.Ab

/- Where a kind stands, of any kind; what a Cons is made of; the order of any terms. No conditions. -/
namespace Go.Ab
open Go.Proofs
set_option maxRecDepth 100000
set_option linter.unusedSimpArgs false

def rkX (k : Int) : Int := if k = 1 then 0 else if k = 2 then 1 else if k = 7 then 2 else if k = 5 then 3 else if k = 3 then 4 else if k = 4 then 5 else if k = 6 then 6 else if k = 8 then 7 else if k = 9 then 8 else 9
theorem rkX_out (k : Int) (h : k < 1 ∨ 9 < k) : rkX k = 9 := by
  unfold rkX
  rw [if_neg (by omega), if_neg (by omega), if_neg (by omega), if_neg (by omega), if_neg (by omega), if_neg (by omega), if_neg (by omega), if_neg (by omega), if_neg (by omega)]
theorem rkX_in (k : Int) (h : 1 ≤ k ∧ k ≤ 9) : rkX k ≤ 8 := by
  have c : k = 1 ∨ k = 2 ∨ k = 3 ∨ k = 4 ∨ k = 5 ∨ k = 6 ∨ k = 7 ∨ k = 8 ∨ k = 9 := by omega
  rcases c with rfl | rfl | rfl | rfl | rfl | rfl | rfl | rfl | rfl <;> decide
theorem rkX_eq (k k' : Int) (h : three (rkX k) (rkX k') = 0) : k = k' ∨ ((k < 1 ∨ 9 < k) ∧ (k' < 1 ∨ 9 < k')) := by
  have e : rkX k = rkX k' := by rw [three_zero] at h; exact h
  by_cases h1 : 1 ≤ k ∧ k ≤ 9
  · by_cases h2 : 1 ≤ k' ∧ k' ≤ 9
    · left
      have c : k = 1 ∨ k = 2 ∨ k = 3 ∨ k = 4 ∨ k = 5 ∨ k = 6 ∨ k = 7 ∨ k = 8 ∨ k = 9 := by omega
      have c' : k' = 1 ∨ k' = 2 ∨ k' = 3 ∨ k' = 4 ∨ k' = 5 ∨ k' = 6 ∨ k' = 7 ∨ k' = 8 ∨ k' = 9 := by omega
      rcases c with rfl | rfl | rfl | rfl | rfl | rfl | rfl | rfl | rfl <;> rcases c' with rfl | rfl | rfl | rfl | rfl | rfl | rfl | rfl | rfl <;> first | rfl | (exact absurd e (by decide))
    · have := rkX_in k h1
      have := rkX_out k' (by omega)
      omega
  · by_cases h2 : 1 ≤ k' ∧ k' ≤ 9
    · have := rkX_in k' h2
      have := rkX_out k (by omega)
      omega
    · right; omega
theorem rk_7 (d : Nat) : evalFn Tryz.prog cfg0 100000 (d+2) 124 [.tree (.int .i64 7)] = some (.tree (.int .i64 2), [[]]) := by kernel_rfl
theorem rk_8 (d : Nat) : evalFn Tryz.prog cfg0 100000 (d+2) 124 [.tree (.int .i64 8)] = some (.tree (.int .i64 7), [[]]) := by kernel_rfl
theorem rk_9 (d : Nat) : evalFn Tryz.prog cfg0 100000 (d+2) 124 [.tree (.int .i64 9)] = some (.tree (.int .i64 8), [[]]) := by kernel_rfl
theorem rrk_7 (d : Nat) : evalFn Tryz.prog cfg0 100000 (d+2) 45 [.tree (.int .i64 7)] = some (.tree (.int .i64 3), [[]]) := by kernel_rfl
theorem rrk_8 (d : Nat) : evalFn Tryz.prog cfg0 100000 (d+2) 45 [.tree (.int .i64 8)] = some (.tree (.int .i64 8), [[]]) := by kernel_rfl
theorem rrk_9 (d : Nat) : evalFn Tryz.prog cfg0 100000 (d+2) 45 [.tree (.int .i64 9)] = some (.tree (.int .i64 9), [[]]) := by kernel_rfl
theorem rrk_0 (d : Nat) : evalFn Tryz.prog cfg0 100000 (d+2) 45 [.tree (.int .i64 0)] = some (.tree (.int .i64 10), [[]]) := by kernel_rfl
def zI (n : Nat) : List AV := List.replicate n (.int .i64 0)
def ks9 : List AV := [.int .i64 1, .int .i64 2, .int .i64 7, .int .i64 5, .int .i64 3, .int .i64 4, .int .i64 6, .int .i64 8, .int .i64 9]
def ks10 : List AV := [.int .i64 10, .int .i64 1, .int .i64 2, .int .i64 5, .int .i64 6, .int .i64 4, .int .i64 7, .int .i64 3, .int .i64 8, .int .i64 9]
theorem tkI9 : tkOf Tryz.prog 138 = .arr 9 3 := by kernel_rfl
theorem eszI9 : esz Tryz.prog 138 = some 9 := by kernel_rfl
theorem zeroI9 : zeroOf Tryz.prog 138 = some (zI 9) := by kernel_rfl
theorem tkI10 : tkOf Tryz.prog 84 = .arr 10 3 := by kernel_rfl
theorem eszI10 : esz Tryz.prog 84 = some 10 := by kernel_rfl
theorem zeroI10 : zeroOf Tryz.prog 84 = some (zI 10) := by kernel_rfl
theorem eszI1 : esz Tryz.prog 3 = some 1 := by kernel_rfl
theorem bdI9 : buildA Tryz.prog 138 [(0, .int .i64 1), (1, .int .i64 2), (2, .int .i64 7), (3, .int .i64 5), (4, .int .i64 3), (5, .int .i64 4), (6, .int .i64 6), (7, .int .i64 8), (8, .int .i64 9)] = some (.agg ks9) := by
  simp only [buildA, zeroI9, tkI9, eszI1, Option.bind_some]; rfl
theorem bdI10 : buildA Tryz.prog 84 [(0, .int .i64 10), (1, .int .i64 1), (2, .int .i64 2), (3, .int .i64 5), (4, .int .i64 6), (5, .int .i64 4), (6, .int .i64 7), (7, .int .i64 3), (8, .int .i64 8), (9, .int .i64 9)] = some (.agg ks10) := by
  simp only [buildA, zeroI10, tkI10, eszI1, Option.bind_some]; rfl
def stIx (ks : List AV) (e : Ent) (p k : Nat) (st : St) : Option St := match e with | ⟨t, .buf xs⟩ => if t = k then (if ks.length ≤ xs.length then some (upd st p ⟨t, .buf (splice xs 0 ks)⟩) else none) else none | _ => none
theorem st_I9 (st : St) (p k : Nat) : storeA Tryz.prog 138 st (.ptr p k 0) (.agg ks9) = stIx ks9 (st p) p k st := by
  simp only [storeA, settle, Option.bind_some, stIx]
  have h5 : ks9.length = 9 := rfl
  cases h : st p with
  | mk t c => cases c <;> simp [eszI9, h5]
theorem st_I10 (st : St) (p k : Nat) : storeA Tryz.prog 84 st (.ptr p k 0) (.agg ks10) = stIx ks10 (st p) p k st := by
  simp only [storeA, settle, Option.bind_some, stIx]
  have h5 : ks10.length = 10 := rfl
  cases h : st p with
  | mk t c => cases c <;> simp [eszI10, h5]
theorem stI9_new (t p k : Nat) (st : St) : stIx ks9 ⟨t, .buf (zI 9)⟩ p k st = if t = k then some (upd st p ⟨t, .buf ks9⟩) else none := by
  rw [stIx, if_pos (show ks9.length ≤ (zI 9).length from Nat.le_refl _)]; rfl
theorem stI10_new (t p k : Nat) (st : St) : stIx ks10 ⟨t, .buf (zI 10)⟩ p k st = if t = k then some (upd st p ⟨t, .buf ks10⟩) else none := by
  rw [stIx, if_pos (show ks10.length ≤ (zI 10).length from Nat.le_refl _)]; rfl
def slI9 (e : Ent) (p k : Nat) : Option AV := (cellsE e k).bind fun xs => if 9 ≤ xs.length then some (.own p k 0 9 1) else none
theorem sl_I9 (s : St) (p k : Nat) : sliceA Tryz.prog 138 s (.ptr p k 0) none none none = slI9 (s p) p k := by
  simp only [sliceA, tkI9, eszI1, boundA, Option.bind_some, cellsAt_E, slI9, Option.isSome_none, Bool.false_eq_true, if_false]
  cases cellsE (s p) k <;> simp
theorem slI9_buf (t p k : Nat) : slI9 ⟨t, .buf ks9⟩ p k = if t = k then some (.own p k 0 9 1) else none := by
  rw [slI9, cellsE_buf]
  by_cases e : t = k
  · rw [if_pos e, if_pos e]; rfl
  · rw [if_neg e, if_neg e]; rfl
theorem callA_lentF {cfg : Cfg} {call : FuncId → List Arg → Option Out} {d : Nat} {s : St} {f : FuncId} {p t len e : Nat} {xs : List AV} {v r : AV} (hlin : cfg.lin f 0 = false) (hs : s p = ⟨t, .buf xs⟩) (hl : len * e = xs.length) (hv : isTree v = true) (hr : flat r = true) (hr2 : ∀ vs, r ≠ .tup vs) (hc : call f [.tree (.sl xs len .loose), .tree v] = some (.tree r, [[], []])) : callA cfg call d s f [.own p t 0 len e, v] = some (r, s) := by
  have h1 : argsA cfg f s 1 [v] = some [.tree v] := argsA_trees f s [v] 1 (by simpa using hv)
  have h2 : givesOf v (.tree v) = none := by cases v <;> first | rfl | (rename_i g; cases g <;> rfl)
  have h3 : lendsOf v (.tree v) = none := by cases v <;> first | rfl | cases hv
  have hf : flatR (.tree r) = true := by
    cases r <;> first | exact hr | exact absurd rfl (hr2 _)
  have h4 : givesOf (.own p t 0 len e) (.tree (.sl xs len .loose)) = none := rfl
  have h5 : lendsOf (.own p t 0 len e) (.tree (.sl xs len .loose)) = some p := rfl
  rw [callA, argsA]
  simp only [argA, cellsAt, hs, if_true, Option.bind_some, Nat.zero_add, hl, Nat.le_refl, hlin, Bool.false_eq_true, if_false, List.drop_zero, List.take_length, h1, Option.map_some, givesL, h4, h2, lendsL, h5, h3, hc, hf, Bool.true_and]
  rw [if_pos (by simp)]
  simp [backA, h4, h2, resA]
theorem idxI_none (n d : Nat) (k : Int) (us : List Int) (h : ∀ x ∈ us, x ≠ k) (hn : us.length < n) (hl : us.length ≤ 1000) : evalFn Tryz.prog cfg0 n (d+1) 143 [.tree (.sl (us.map (.int .i64)) us.length .loose), .tree (.int .i64 k)] = some (.tree (.int .i64 (-1)), [[], []]) := by
  rw [evalFn_go _ Tryz.func143 (by unfold Tryz.f143; rfl) (by unfold Tryz.f143; decide) (Nat.le_of_ble_eq_true (by unfold Tryz.f143; rfl)) (by kernel_rfl)]
  simp only [simB, zbo, Nat.reduceBEq, own0, ↓reduceIte, Nat.reduceEqDiff, Nat.reduceAdd, simA, simL, simN, Nat.zero_add, len33, den_loop]
  trace_state
  refine loop_ends (X := Nat) (fun i env s => env 0 = .sl (us.map (.int .i64)) us.length .loose ∧ env 1 = .int .i64 k ∧ env 7 = .int .i64 (us.length : Int) ∧ env 8 = .int .i64 (i : Int) ∧ i ≤ us.length) (fun i => us.length - i) (fun _ => (.tree (.int .i64 (-1)), [[], []])) ?_ n 0 _ _ (by omega) ⟨(by simp only [zfp, ↓reduceIte, Nat.reduceEqDiff, env0, List.getElem?_cons_zero]; try rfl), (by simp only [zfp, ↓reduceIte, Nat.reduceEqDiff, env0, List.getElem?_cons_zero, List.getElem?_cons_succ]; try rfl), (by simp only [zfp, ↓reduceIte, Nat.reduceEqDiff]; try rfl), (by simp only [zfp, ↓reduceIte, Nat.reduceEqDiff]; try rfl), Nat.zero_le _⟩
  intro rr i hr ih env st ⟨e0, e1, e7, e8, hi⟩
  by_cases hlt : i < us.length
  · have q1 : (i : Int) < (us.length : Int) := by omega
    have ia := fun st => ia33 st (us.map (.int .i64)) us.length .loose i hlt
    rw [List.drop_eq_getElem_cons (by rw [List.length_map]; exact hlt), List.getElem_map] at ia
    have g' : (k == us[i]) = false := beq_eq_false_iff_ne.mpr fun e => h _ (List.getElem_mem hlt) e.symm
    have f5 := i_add Tryz.prog 3 (i : Int) 1 (by omega) (by omega)
    simp only [simB, zbo, Nat.reduceBEq, own0, ↓reduceIte, Nat.reduceEqDiff, Nat.reduceAdd, simL, simN, Nat.zero_add, e0, e1, e7, e8, q1, ia, ld33, i_eqlV, g', f5]
    exact ih (i + 1) _ _ (by omega) rfl ⟨(by simp only [zfp, ↓reduceIte, Nat.reduceEqDiff, e0]; try rfl), (by simp only [zfp, ↓reduceIte, Nat.reduceEqDiff, e1]; try rfl), (by simp only [zfp, ↓reduceIte, Nat.reduceEqDiff, e7]; try rfl), (by simp only [zfp, ↓reduceIte, Nat.reduceEqDiff]; try rfl), by omega⟩
  · have hie : i = us.length := by omega
    subst hie
    have q1 : ¬ (us.length : Int) < (us.length : Int) := by omega
    simp only [simB, zbo, Nat.reduceBEq, own0, ↓reduceIte, Nat.reduceEqDiff, Nat.reduceAdd, simL, simN, Nat.zero_add, e0, e1, e7, e8, q1]
    exact finish_i _ _ _ _ _ _ _ (by simp only [zfp, ↓reduceIte, Nat.reduceEqDiff]; try rfl) rfl
set_option maxHeartbeats 4000000 in
theorem rk_out (d : Nat) (k : Int) (h : k < 1 ∨ 9 < k) : evalFn Tryz.prog cfg0 100000 (d+2) 124 [.tree (.int .i64 k)] = some (.tree (.int .i64 9), [[]]) := by
  rw [evalFn_go _ Tryz.func124 (by unfold Tryz.f124; rfl) (by unfold Tryz.f124; decide) (Nat.le_of_ble_eq_true (by unfold Tryz.f124; rfl)) (by kernel_rfl)]
  have hx := idxI_none 100000 d k [1, 2, 7, 5, 3, 4, 6, 8, 9] (by intro x hx; simp only [List.mem_cons, List.not_mem_nil, or_false] at hx; omega) (by decide) (by decide)
  have ci := fun D st p t (hs : st p = ⟨t, .buf ks9⟩) => callA_lentF (cfg := cfg0) (call := evalFn Tryz.prog cfg0 100000 (d+1)) (d := D) (s := st) (f := 143) (p := p) (t := t) (len := 9) (e := 1) (xs := ks9) (v := .int .i64 k) (r := .int .i64 (-1)) rfl hs rfl rfl rfl (fun _ h => by cases h) hx
  have q1 : ¬ ((-1 : Int) ≥ 0) := by decide
  simp only [simB, zbo, Nat.reduceBEq, own0, ↓reduceIte, Nat.reduceEqDiff, Nat.reduceAdd, simA, simL, simN, Nat.zero_add, zeroI9, bdI9, st_I9, stI9_new, sl_I9, slI9_buf, ci, q1]
  exact finish_i _ _ _ _ _ _ _ (by simp only [zfp, ↓reduceIte, Nat.reduceEqDiff]; try rfl) rfl
theorem trkX (d : Nat) (k : Int) : evalFn Tryz.prog cfg0 100000 (d+2) 124 [.tree (.int .i64 k)] = some (.tree (.int .i64 (rkX k)), [[]]) := by
  by_cases h : k < 1 ∨ 9 < k
  · rw [rkX_out k h]; exact rk_out d k h
  · have c : k = 1 ∨ k = 2 ∨ k = 3 ∨ k = 4 ∨ k = 5 ∨ k = 6 ∨ k = 7 ∨ k = 8 ∨ k = 9 := by omega
    rcases c with rfl | rfl | rfl | rfl | rfl | rfl | rfl | rfl | rfl
    · exact rkx1 d
    · exact rkx2 d
    · exact rkx3 d
    · exact rkx4 d
    · exact rkx5 d
    · exact rkx6 d
    · exact rk_7 d
    · exact rk_8 d
    · exact rk_9 d
set_option maxHeartbeats 4000000 in
theorem rrk_out (d : Nat) (k : Int) (h : k < 0 ∨ 9 < k) : evalFn Tryz.prog cfg0 100000 (d+2) 45 [.tree (.int .i64 k)] = some (.tree (.int .i64 10), [[]]) := by
  rw [evalFn_go _ Tryz.func45 (by unfold Tryz.f45; rfl) (by unfold Tryz.f45; decide) (Nat.le_of_ble_eq_true (by unfold Tryz.f45; rfl)) (by kernel_rfl)]
  by_cases h0 : k < 0
  · simp only [simB, zbo, Nat.reduceBEq, own0, ↓reduceIte, Nat.reduceEqDiff, Nat.reduceAdd, simA, simL, simN, Nat.zero_add, zeroI10, bdI10, st_I10, stI10_new, h0]
    exact finish_i _ _ _ _ _ _ _ (by simp only [zfp, ↓reduceIte, Nat.reduceEqDiff]; try rfl) rfl
  · have h9 : k > 9 := by omega
    simp only [simB, zbo, Nat.reduceBEq, own0, ↓reduceIte, Nat.reduceEqDiff, Nat.reduceAdd, simA, simL, simN, Nat.zero_add, zeroI10, bdI10, st_I10, stI10_new, h0, h9]
    exact finish_i _ _ _ _ _ _ _ (by simp only [zfp, ↓reduceIte, Nat.reduceEqDiff]; try rfl) rfl
theorem rrkX (d : Nat) (k : Int) : evalFn Tryz.prog cfg0 100000 (d+2) 45 [.tree (.int .i64 k)] = some (.tree (.int .i64 (rkX k + 1)), [[]]) := by
  by_cases h : k < 1 ∨ 9 < k
  · rw [rkX_out k h]
    by_cases h0 : k = 0
    · subst h0; exact rrk_0 d
    · exact rrk_out d k (by omega)
  · have c : k = 1 ∨ k = 2 ∨ k = 3 ∨ k = 4 ∨ k = 5 ∨ k = 6 ∨ k = 7 ∨ k = 8 ∨ k = 9 := by omega
    rcases c with rfl | rfl | rfl | rfl | rfl | rfl | rfl | rfl | rfl
    · exact rrk1 d
    · exact rrk2 d
    · exact rrk3 d
    · exact rrk4 d
    · exact rrk5 d
    · exact rrk6 d
    · exact rrk_7 d
    · exact rrk_8 d
    · exact rrk_9 d
theorem kidN_eq (n d : Nat) (k : Int) (b : Bool) (lg : Gk) (l : List Nat) (s : List UInt8) (m : Int) (kg : Gk) (ks : List T) (i : Nat) (hi : ks.length ≤ i) :
    evalFn Tryz.prog cfg0 n (d+1) 122 [.tree (encT (.mk k b lg l s m kg ks)), .tree (.int .i64 (i : Int))] = some (.tree (encT nilT'), [[], []]) := by
  rw [evalFn_go _ Tryz.func122 (by unfold Tryz.f122; rfl) (by unfold Tryz.f122; decide) (Nat.le_of_ble_eq_true (by unfold Tryz.f122; rfl)) (by kernel_rfl)]
  have q1 : ¬ (i : Int) < (ks.length : Int) := by omega
  simp only [simB, zbo, Nat.reduceBEq, own0, ↓reduceIte, Nat.reduceEqDiff, Nat.reduceAdd, simA, simL, simN, Nat.zero_add, encT, cellsT, zeroT, faT_4, ldT_4, lenTk, q1, bdN3, st_Tt, stT_6]
  exact finish_cT _ _ _ _ _ nilT' _ _ _ (by simp only [zfp, ↓reduceIte, Nat.reduceEqDiff]; try rfl) (by simp only [zfp, ↓reduceIte, Nat.reduceEqDiff]; try rfl) rfl
theorem kidX_eq (n d : Nat) (k : Int) (b : Bool) (lg : Gk) (l : List Nat) (s : List UInt8) (m : Int) (kg : Gk) (ks : List T) (i : Nat) :
    evalFn Tryz.prog cfg0 n (d+1) 122 [.tree (encT (.mk k b lg l s m kg ks)), .tree (.int .i64 (i : Int))] = some (.tree (encT (ks.getD i nilT')), [[], []]) := by
  by_cases h : i < ks.length
  · rw [List.getD_eq_getElem?_getD, List.getElem?_eq_getElem h]
    exact kid_eq n d k b lg l s m kg ks i ks[i] _ (List.drop_eq_getElem_cons h)
  · rw [List.getD_eq_getElem?_getD, List.getElem?_eq_none (by omega)]
    exact kidN_eq n d k b lg l s m kg ks i (by omega)
theorem rpartN_eq (n d : Nat) (k : Int) (b : Bool) (lg : Gk) (l : List Nat) (s : List UInt8) (m : Int) (kg : Gk) (ks : List T) (i : Nat) (hi : ks.length ≤ i) :
    evalFn Tryz.prog cfg0 n (d+1) 48 [.tree (encT (.mk k b lg l s m kg ks)), .tree (.int .i64 (i : Int))] = some (.tree (encT nilT'), [[], []]) := by
  rw [evalFn_go _ Tryz.func48 (by unfold Tryz.f48; rfl) (by unfold Tryz.f48; decide) (Nat.le_of_ble_eq_true (by unfold Tryz.f48; rfl)) (by kernel_rfl)]
  have q1 : ¬ (i : Int) < (ks.length : Int) := by omega
  simp only [simB, zbo, Nat.reduceBEq, own0, ↓reduceIte, Nat.reduceEqDiff, Nat.reduceAdd, simA, simL, simN, Nat.zero_add, encT, cellsT, zeroT, faT_4, ldT_4, lenTk, q1, bdN3, st_Tt, stT_6]
  exact finish_cT _ _ _ _ _ nilT' _ _ _ (by simp only [zfp, ↓reduceIte, Nat.reduceEqDiff]; try rfl) (by simp only [zfp, ↓reduceIte, Nat.reduceEqDiff]; try rfl) rfl
theorem partX_eq (n d : Nat) (k : Int) (b : Bool) (lg : Gk) (l : List Nat) (s : List UInt8) (m : Int) (kg : Gk) (ks : List T) (i : Nat) :
    evalFn Tryz.prog cfg0 n (d+1) 48 [.tree (encT (.mk k b lg l s m kg ks)), .tree (.int .i64 (i : Int))] = some (.tree (encT (ks.getD i nilT')), [[], []]) := by
  by_cases h : i < ks.length
  · rw [List.getD_eq_getElem?_getD, List.getElem?_eq_getElem h]
    exact rpart_eq n d (.mk k b lg l s m kg ks) i ks[i] _ (List.drop_eq_getElem_cons h)
  · rw [List.getD_eq_getElem?_getD, List.getElem?_eq_none (by omega)]
    exact rpartN_eq n d k b lg l s m kg ks i (by omega)
def nilX (u : T) : Int := three (rkX 3) (rkX (kindT u))
mutual
def cmpX : T → T → Int
  | .mk k b _ l s n _ ks, u =>
    if k = 4 ∧ kindT u = 4 then cmpXC ks (kidsT u)
    else or2 (three (rkX k) (rkX (kindT u))) (if k = 1 then cmpI (numZ b l) (numT u) else if k = 2 ∨ k = 6 then strC s (strT u) else if k = 7 then or2 (three n (nT u)) (or2 (three ks.length (kidsT u).length) (cmpXL ks (kidsT u))) else if k = 5 then or2 (three ks.length (kidsT u).length) (cmpXL ks (kidsT u)) else if k = 8 then or2 (strC s (strT u)) (three n (nT u)) else if k = 9 then three n (nT u) else 0)
def cmpXC : List T → List T → Int
  | [], v => or2 (nilX (v.headD nilT')) (nilX (v.tail.headD nilT'))
  | x :: r, v => or2 (cmpX x (v.headD nilT')) (cmpXD r v.tail)
def cmpXD : List T → List T → Int
  | [], v => nilX (v.headD nilT')
  | x :: _, v => cmpX x (v.headD nilT')
def cmpXL : List T → List T → Int
  | [], [] => 0
  | [], _ :: _ => -1
  | _ :: _, [] => 1
  | x :: r, y :: q => or2 (cmpX x y) (cmpXL r q)
end
theorem cmpX_nil (u : T) : cmpX nilT' u = nilX u := by
  simp only [nilT', cmpX, nilX]
  simp only [Int.reduceEq, false_and, false_or, if_false, or2]
  split <;> simp_all
theorem getD0 (v : List T) (d : T) : v.getD 0 d = v.headD d := by cases v <;> rfl
theorem getD1 (v : List T) (d : T) : v.getD 1 d = v.tail.headD d := by cases v with | nil => rfl | cons a r => cases r <;> rfl
theorem cmpX_4 (b : Bool) (lg : Gk) (l : List Nat) (s : List UInt8) (n : Int) (kg : Gk) (ks : List T) (u : T) (hu : kindT u = 4) : cmpX (.mk 4 b lg l s n kg ks) u = or2 (cmpX (ks.getD 0 nilT') ((kidsT u).getD 0 nilT')) (cmpX (ks.getD 1 nilT') ((kidsT u).getD 1 nilT')) := by
  rw [cmpX, if_pos ⟨rfl, hu⟩, getD0 (kidsT u), getD1 (kidsT u)]
  match ks with
  | [] => simp only [cmpXC]; rw [← cmpX_nil, ← cmpX_nil]; rfl
  | [x] => simp only [cmpXC, cmpXD]; rw [← cmpX_nil]; rfl
  | x :: y :: r => simp only [cmpXC, cmpXD]; rfl
theorem cmpX_no (k : Int) (b : Bool) (lg : Gk) (l : List Nat) (s : List UInt8) (n : Int) (kg : Gk) (ks : List T) (u : T) (hu : ¬ (k = 4 ∧ kindT u = 4)) : cmpX (.mk k b lg l s n kg ks) u = or2 (three (rkX k) (rkX (kindT u))) (if k = 1 then cmpI (numZ b l) (numT u) else if k = 2 ∨ k = 6 then strC s (strT u) else if k = 7 then or2 (three n (nT u)) (or2 (three ks.length (kidsT u).length) (cmpXL ks (kidsT u))) else if k = 5 then or2 (three ks.length (kidsT u).length) (cmpXL ks (kidsT u)) else if k = 8 then or2 (strC s (strT u)) (three n (nT u)) else if k = 9 then three n (nT u) else 0) := by
  rw [cmpX, if_neg hu]
end Go.Ab

/- term.Cmp of any terms. Conditions: limbs in range; so many nodes at most. -/
namespace Go.Ab
open Go.Proofs
set_option maxRecDepth 100000
set_option linter.unusedSimpArgs false

set_option maxHeartbeats 8000000 in
theorem cmpFX_eq (d : Nat) (us vs : List T) (ag bg : Gk) (ha : us.length ≤ 1000)
    (h : ∀ i j x y q r, us.drop i = x :: q → vs.drop j = y :: r → evalFn Tryz.prog cfg0 100000 d 96 [.tree (encT x), .tree (encT y)] = some (.tree (.int .i64 (cmpX x y)), [[], []])) :
    evalFn Tryz.prog cfg0 100000 (d+1) 145 [.tree (.sl (cellsK us) us.length (gr ag)), .tree (.sl (cellsK vs) vs.length (gr bg)), .tree (.fn 96 [])] = some (.tree (.int .i64 (cmpXL us vs)), [[], [], []]) := by
  rw [evalFn_go _ Tryz.func145 (by unfold Tryz.f145; rfl) (by unfold Tryz.f145; decide) (Nat.le_of_ble_eq_true (by unfold Tryz.f145; rfl)) (by kernel_rfl)]
  simp only [simB, zbo, Nat.reduceBEq, own0, ↓reduceIte, Nat.reduceEqDiff, Nat.reduceAdd, simA, simL, lenTk, den_loop]
  refine loop_ends (X := Nat) (fun i env s => env 0 = .sl (cellsK us) us.length (gr ag) ∧ env 1 = .sl (cellsK vs) vs.length (gr bg) ∧ env 2 = .fn 96 [] ∧ env 11 = .sl (cellsK us) us.length (gr ag) ∧ env 12 = .int .i64 (us.length : Int) ∧ env 13 = .int .i64 (i : Int) ∧ i ≤ us.length ∧ i ≤ vs.length ∧ cmpXL (us.drop i) (vs.drop i) = cmpXL us vs) (fun i => us.length - i) (fun _ => (.tree (.int .i64 (cmpXL us vs)), [[], [], []])) ?_ 100000 0 _ _ (by omega) ⟨(by simp only [zfp, ↓reduceIte, Nat.reduceEqDiff, env0, List.getElem?_cons_zero, List.getElem?_cons_succ]; try rfl), (by simp only [zfp, ↓reduceIte, Nat.reduceEqDiff, env0, List.getElem?_cons_zero, List.getElem?_cons_succ]; try rfl), (by simp only [zfp, ↓reduceIte, Nat.reduceEqDiff, env0, List.getElem?_cons_zero, List.getElem?_cons_succ]; try rfl), (by simp only [zfp, ↓reduceIte, Nat.reduceEqDiff]; try rfl), (by simp only [zfp, ↓reduceIte, Nat.reduceEqDiff]; try rfl), (by simp only [zfp, ↓reduceIte, Nat.reduceEqDiff]; try rfl), Nat.zero_le _, Nat.zero_le _, rfl⟩
  intro k i hx ih env st ⟨e0, e1, e2, e11, e12, e13, hi, hi2, hc⟩
  cases hda : us.drop i with
  | nil =>
    have hil : i = us.length := by have := congrArg List.length hda; simp only [List.length_drop, List.length_nil] at this; omega
    have q1 : ¬ ((i : Int) < (us.length : Int)) := by omega
    rw [hda] at hc
    cases hdb : vs.drop i with
    | nil =>
      have hjl : i = vs.length := by have := congrArg List.length hdb; simp only [List.length_drop, List.length_nil] at this; omega
      rw [hdb] at hc
      simp only [cmpXL] at hc
      rw [← hc]
      have q2 : ¬ ((us.length : Int) < (vs.length : Int)) := by omega
      simp only [simB, zbo, Nat.reduceBEq, own0, ↓reduceIte, Nat.reduceEqDiff, Nat.reduceAdd, simL, e0, e1, e2, e11, e12, e13, q1, q2, lenTk]
      exact finish_i _ _ _ _ _ _ _ (by simp only [zfp, ↓reduceIte, Nat.reduceEqDiff]; try rfl) rfl
    | cons y r =>
      have hjl : i < vs.length := by have := congrArg List.length hdb; simp only [List.length_drop, List.length_cons] at this; omega
      rw [hdb] at hc
      simp only [cmpXL] at hc
      rw [← hc]
      have q2 : (us.length : Int) < (vs.length : Int) := by omega
      simp only [simB, zbo, Nat.reduceBEq, own0, ↓reduceIte, Nat.reduceEqDiff, Nat.reduceAdd, simL, e0, e1, e2, e11, e12, e13, q1, q2, lenTk]
      exact finish_i _ _ _ _ _ _ _ (by simp only [zfp, ↓reduceIte, Nat.reduceEqDiff]; try rfl) rfl
  | cons x q =>
    have hil : i < us.length := by have := congrArg List.length hda; simp only [List.length_drop, List.length_cons] at this; omega
    have q1 : (i : Int) < (us.length : Int) := by omega
    have ia := fun st => ia_K st us (gr ag) i hil
    rw [hda] at ia hc
    have ld := fun st => ld_K st x q
    simp only [encT] at ld
    cases hdb : vs.drop i with
    | nil =>
      have hjl : i = vs.length := by have := congrArg List.length hdb; simp only [List.length_drop, List.length_nil] at this; omega
      rw [hdb] at hc
      simp only [cmpXL] at hc
      rw [← hc]
      have q2 : (i : Int) ≥ (vs.length : Int) := by omega
      simp only [simB, zbo, Nat.reduceBEq, own0, ↓reduceIte, Nat.reduceEqDiff, Nat.reduceAdd, simL, simN, Nat.zero_add, e0, e1, e2, e11, e12, e13, q1, q2, lenTk, ia, ld, zeroT, st_Tt, stT_6]
      exact finish_i _ _ _ _ _ _ _ (by simp only [zfp, ↓reduceIte, Nat.reduceEqDiff]; try rfl) rfl
    | cons y r =>
      have hjl : i < vs.length := by have := congrArg List.length hdb; simp only [List.length_drop, List.length_cons] at this; omega
      have q2 : ¬ ((i : Int) ≥ (vs.length : Int)) := by omega
      have ib := fun st => ia_K st vs (gr bg) i hjl
      rw [hdb] at ib hc
      have ldb := fun st => ld_K st y r
      simp only [encT] at ldb
      simp only [cmpXL] at hc
      have cc := fun D st => callA_trees (cfg := cfg0) (d := D) (s := st) (f := 96) (vs := [encT x, encT y]) rfl (h i i x y q r hda hdb)
      simp only [encT] at cc
      have f5 := i_add Tryz.prog 3 (i : Int) 1 (by omega) (by omega)
      by_cases g : cmpX x y = 0
      · have g' : (cmpX x y != 0) = false := by rw [g]; rfl
        rw [or2_0 g] at hc
        simp only [simB, zbo, Nat.reduceBEq, own0, ↓reduceIte, Nat.reduceEqDiff, Nat.reduceAdd, simL, simN, Nat.zero_add, simV, e0, e1, e2, e11, e12, e13, q1, q2, lenTk, ia, ib, ld, ldb, zeroT, st_Tt, stT_6, ldT_u, cc, g', f5]
        exact ih (i + 1) _ _ (by omega) rfl ⟨(by simp only [zfp, ↓reduceIte, Nat.reduceEqDiff, e0]; try rfl), (by simp only [zfp, ↓reduceIte, Nat.reduceEqDiff, e1]; try rfl), (by simp only [zfp, ↓reduceIte, Nat.reduceEqDiff, e2]; try rfl), (by simp only [zfp, ↓reduceIte, Nat.reduceEqDiff, e11]; try rfl), (by simp only [zfp, ↓reduceIte, Nat.reduceEqDiff, e12]; try rfl), (by simp only [zfp, ↓reduceIte, Nat.reduceEqDiff]; try rfl), by omega, by omega, by rw [drop_next hda, drop_next hdb]; exact hc⟩
      · have g' : (cmpX x y != 0) = true := by rw [bne_iff_ne]; exact g
        rw [or2_n g] at hc
        rw [← hc]
        simp only [simB, zbo, Nat.reduceBEq, own0, ↓reduceIte, Nat.reduceEqDiff, Nat.reduceAdd, simL, simN, Nat.zero_add, simV, e0, e1, e2, e11, e12, e13, q1, q2, lenTk, ia, ib, ld, ldb, zeroT, st_Tt, stT_6, ldT_u, cc, g', f5]
        exact finish_i _ _ _ _ _ _ _ (by simp only [zfp, ↓reduceIte, Nat.reduceEqDiff]; try rfl) rfl
theorem tuplesX_eq (d : Nat) (us vs : List T) (ag bg : Gk) (ha : us.length ≤ 1000)
    (h : ∀ i j x y q r, us.drop i = x :: q → vs.drop j = y :: r → evalFn Tryz.prog cfg0 100000 (d+1) 96 [.tree (encT x), .tree (encT y)] = some (.tree (.int .i64 (cmpX x y)), [[], []])) :
    evalFn Tryz.prog cfg0 100000 (d+3) 128 [.tree (.sl (cellsK us) us.length (gr ag)), .tree (.sl (cellsK vs) vs.length (gr bg))] = some (.tree (.int .i64 (or2 (three us.length vs.length) (cmpXL us vs))), [[], []]) := by
  rw [evalFn_go _ Tryz.func128 (by unfold Tryz.f128; rfl) (by unfold Tryz.f128; decide) (Nat.le_of_ble_eq_true (by unfold Tryz.f128; rfl)) (by kernel_rfl)]
  have hf := cmpFX_eq (d+1) us vs ag bg ha h
  have isk : ∀ g : Gk, ∀ ks : List T, isTree (.sl (cellsK ks) ks.length (gr g)) = true := by intro g ks; cases g <;> rfl
  have c1 := fun D st => callA_trees (cfg := cfg0) (d := D) (s := st) (f := 145) (vs := [.sl (cellsK us) us.length (gr ag), .sl (cellsK vs) vs.length (gr bg), .fn 96 []]) (by simp only [List.all_cons, isk, Bool.true_and]; rfl) hf
  have c2 := fun D st => callA_trees (cfg := cfg0) (d := D) (s := st) (f := 123) (vs := [.int .i64 (us.length : Int), .int .i64 (vs.length : Int)]) rfl (cmpCI_eq 100000 d us.length vs.length)
  have c3 := fun D st x y => callA_trees (cfg := cfg0) (d := D) (s := st) (f := 127) (vs := [.sl [.int .i64 x, .int .i64 y] 2 .tight]) rfl (orI_eq 100000 (d+1) (by decide) x y .tight)
  simp only [simB, zbo, Nat.reduceBEq, own0, ↓reduceIte, Nat.reduceEqDiff, Nat.reduceAdd, simA, simL, lenTk, c1, c2, c3, opA_two33, two33_int]
  exact finish_i _ _ _ _ _ _ _ (by simp only [zfp, ↓reduceIte, Nat.reduceEqDiff]; try rfl) rfl
set_option maxHeartbeats 4000000 in
theorem tcmp_nil (m : Nat) (b0 : T) : evalFn Tryz.prog cfg0 100000 (m+9) 96 [.tree (encT nilT'), .tree (encT b0)] = some (.tree (.int .i64 (nilX b0)), [[], []]) := by
  rw [evalFn_go _ Tryz.func96 (by unfold Tryz.f96; rfl) (by unfold Tryz.f96; decide) (Nat.le_of_ble_eq_true (by unfold Tryz.f96; rfl)) (by kernel_rfl)]
  simp only [simB, zbo, Nat.reduceBEq, own0, ↓reduceIte, Nat.reduceEqDiff, Nat.reduceAdd, simA, simN, Nat.zero_add, encT, den_loop]
  refine loop_ends (X := Unit) (fun _ env s => env 2 = .ptr 2 1 0 ∧ env 3 = .ptr 3 1 0 ∧ s 2 = ⟨1, .buf (cellsT nilT')⟩ ∧ s 3 = ⟨1, .buf (cellsT b0)⟩) (fun _ => 0) (fun _ => (.tree (.int .i64 (nilX b0)), [[], []])) ?_ 100000 () _ _ (by omega) ⟨(by simp only [zfp, ↓reduceIte, Nat.reduceEqDiff]; try rfl), (by simp only [zfp, ↓reduceIte, Nat.reduceEqDiff]; try rfl), (by simp only [zfp, ↓reduceIte, Nat.reduceEqDiff]; try rfl), (by simp only [zfp, ↓reduceIte, Nat.reduceEqDiff]; try rfl)⟩
  rintro rd - hrd - env st ⟨e2, e3, j2, j3⟩
  obtain ⟨k', n2, lg', l', s', i2, kg', ks'⟩ := b0
  simp only [cellsT, nilT'] at j2 j3
  have r1 := callQ_trees (f := 124) (vs := [.int .i64 3]) rfl (trkX (m+6) 3)
  have r2 := callQ_trees (f := 124) (vs := [.int .i64 k']) rfl (trkX (m+6) k')
  have r3 := callQ_trees (f := 123) (vs := [.int .i64 (rkX 3), .int .i64 (rkX k')]) rfl (cmpCI_eq 100000 (m+6) (rkX 3) (rkX k'))
  simp only [nilX, kindT]
  by_cases g : three (rkX 3) (rkX k') = 0
  · have g' : (three (rkX 3) (rkX k') != 0) = false := by rw [g]; rfl
    rw [g]
    simp only [simB, zbo, Nat.reduceBEq, own0, ↓reduceIte, Nat.reduceEqDiff, Nat.reduceAdd, simL, simN, Nat.zero_add, e2, e3, j2, j3, faT_0, faT_1, faT_2, faT_4, ldT_0, ldT_1, ldT_2, ldT_4, i_eqlV, Int.reduceBEq, r1, r2, r3, g']
    exact finish_i _ _ _ _ _ _ _ (by simp only [zfp, ↓reduceIte, Nat.reduceEqDiff]; try rfl) rfl
  · have g' : (three (rkX 3) (rkX k') != 0) = true := by rw [bne_iff_ne]; exact g
    simp only [simB, zbo, Nat.reduceBEq, own0, ↓reduceIte, Nat.reduceEqDiff, Nat.reduceAdd, simL, simN, Nat.zero_add, e2, e3, j2, j3, faT_0, ldT_0, i_eqlV, Int.reduceBEq, r1, r2, r3, g']
    exact finish_i _ _ _ _ _ _ _ (by simp only [zfp, ↓reduceIte, Nat.reduceEqDiff]; try rfl) rfl
theorem getD_kid (ks : List T) (i : Nat) : ks.getD i nilT' = nilT' ∨ ∃ r, ks.drop i = ks.getD i nilT' :: r := by
  by_cases h : i < ks.length
  · right
    refine ⟨ks.drop (i + 1), ?_⟩
    rw [List.getD_eq_getElem?_getD, List.getElem?_eq_getElem h]
    exact List.drop_eq_getElem_cons h
  · left
    rw [List.getD_eq_getElem?_getD, List.getElem?_eq_none (by omega)]; rfl
def muX (t : T) : Nat := if kindT t = 4 then nodT t else 0
theorem mu_nil : muX nilT' = 0 := rfl
theorem mu_le (t : T) : muX t ≤ nodT t := by unfold muX; split <;> omega
theorem big_nil (R : Nat) (hR : 0 < R) : bigT R nilT' := by
  simp only [nilT', bigT, bigK, List.length_nil]
  exact ⟨(by intro x hx; cases hx), hR, trivial⟩
theorem kid_known (R : Nat) (hR : 0 < R) (ks : List T) (i : Nat) (hb : bigK R ks) : bigT R (ks.getD i nilT') ∧ muX (ks.getD i nilT') ≤ nodK ks ∧ nodT (ks.getD i nilT') ≤ nodK ks + 1 ∧ htT (ks.getD i nilT') ≤ max 1 (htK ks) := by
  rcases getD_kid ks i with h | ⟨r, h⟩
  · rw [h]
    refine ⟨big_nil R hR, ?_, ?_, ?_⟩
    · rw [mu_nil]; omega
    · show 1 ≤ _; omega
    · show 1 ≤ _; omega
  · have h1 := kids_nod ks i _ r h
    have h2 := kids_ht ks i _ r h
    have := mu_le (ks.getD i nilT')
    exact ⟨bigK_at R ks i _ r h hb, by omega, by omega, by omega⟩
set_option maxHeartbeats 32000000 in
theorem tcmpX_eq : ∀ (d D : Nat) (a0 b0 : T), htT a0 ≤ d → 3 * d + 9 ≤ D → nodT a0 ≤ 1000 → bigT 9223372036854775808 a0 → bigT 9223372036854775808 b0 →
    evalFn Tryz.prog cfg0 100000 D 96 [.tree (encT a0), .tree (encT b0)] = some (.tree (.int .i64 (cmpX a0 b0)), [[], []])
  | 0, _, a0, b0, hd, _, hn, ha, hb => by obtain ⟨k, b, lg, l, s, m, kg, ks⟩ := a0; simp only [htT] at hd; omega
  | d + 1, D, a0, b0, hd, hD, hn, ha, hb => by
    obtain ⟨m, rfl⟩ : ∃ m, D = m + 12 := ⟨D - 12, by omega⟩
    have IH := fun D h a b h1 h2 h3 h4 => tcmpX_eq d D a b h1 h h2 h3 h4
    rw [evalFn_go _ Tryz.func96 (by unfold Tryz.f96; rfl) (by unfold Tryz.f96; decide) (Nat.le_of_ble_eq_true (by unfold Tryz.f96; rfl)) (by kernel_rfl)]
    simp only [simB, zbo, Nat.reduceBEq, own0, ↓reduceIte, Nat.reduceEqDiff, Nat.reduceAdd, simA, simN, Nat.zero_add, encT, den_loop]
    refine loop_ends (X := T × T) (fun x env s => env 2 = .ptr 2 1 0 ∧ env 3 = .ptr 3 1 0 ∧ s 2 = ⟨1, .buf (cellsT x.1)⟩ ∧ s 3 = ⟨1, .buf (cellsT x.2)⟩ ∧ htT x.1 ≤ d + 1 ∧ nodT x.1 ≤ 1000 ∧ bigT 9223372036854775808 x.1 ∧ bigT 9223372036854775808 x.2) (fun x => muX x.1) (fun x => (.tree (.int .i64 (cmpX x.1 x.2)), [[], []])) ?_ 100000 (a0, b0) _ _ (by have := mu_le a0; simp only; omega) ⟨(by simp only [zfp, ↓reduceIte, Nat.reduceEqDiff]; try rfl), (by simp only [zfp, ↓reduceIte, Nat.reduceEqDiff]; try rfl), (by simp only [zfp, ↓reduceIte, Nat.reduceEqDiff]; try rfl), (by simp only [zfp, ↓reduceIte, Nat.reduceEqDiff]; try rfl), hd, hn, ha, hb⟩
    rintro rd ⟨a, b⟩ hrd ih env st ⟨e2, e3, j2, j3, hht, hnod, hga, hgb⟩
    simp only at j2 j3 hht hnod hga hgb
    obtain ⟨k, n1, lg, l, s, i1, kg, ks⟩ := a
    obtain ⟨k', n2, lg', l', s', i2, kg', ks'⟩ := b
    have ga := hga
    have gb := hgb
    simp only [bigT] at ga gb
    simp only [cellsT] at j2 j3
    by_cases h4 : k = 4 ∧ k' = 4
    · obtain ⟨rfl, rfl⟩ := h4
      have hhk : htK ks ≤ d := by simp only [htT] at hht; omega
      have hnk : nodK ks + 1 = nodT (.mk 4 n1 lg l s i1 kg ks) := by simp only [nodT]
      have hmu : muX (.mk 4 n1 lg l s i1 kg ks) = nodT (.mk 4 n1 lg l s i1 kg ks) := rfl
      have hc := cmpX_4 n1 lg l s i1 kg ks (.mk 4 n2 lg' l' s' i2 kg' ks') rfl
      simp only [kidsT] at hc
      have hq : ((4 : Int) == 4) = true := rfl
      have q0 := kid_known 9223372036854775808 (by decide) ks 0 ga.2.2
      have q1 := kid_known 9223372036854775808 (by decide) ks 1 ga.2.2
      have p0 := kid_known 9223372036854775808 (by decide) ks' 0 gb.2.2
      have p1 := kid_known 9223372036854775808 (by decide) ks' 1 gb.2.2
      have k1 := callQ_trees (f := 122) (vs := [encT (.mk 4 n1 lg l s i1 kg ks), .int .i64 0]) rfl (kidX_eq 100000 (m+10) 4 n1 lg l s i1 kg ks 0)
      have k2 := callQ_trees (f := 122) (vs := [encT (.mk 4 n1 lg l s i1 kg ks), .int .i64 1]) rfl (kidX_eq 100000 (m+10) 4 n1 lg l s i1 kg ks 1)
      have k3 := callQ_trees (f := 122) (vs := [encT (.mk 4 n2 lg' l' s' i2 kg' ks'), .int .i64 0]) rfl (kidX_eq 100000 (m+10) 4 n2 lg' l' s' i2 kg' ks' 0)
      have k4 := callQ_trees (f := 122) (vs := [encT (.mk 4 n2 lg' l' s' i2 kg' ks'), .int .i64 1]) rfl (kidX_eq 100000 (m+10) 4 n2 lg' l' s' i2 kg' ks' 1)
      have hh : evalFn Tryz.prog cfg0 100000 (m+11) 96 [.tree (encT (ks.getD 0 nilT')), .tree (encT (ks'.getD 0 nilT'))] = some (.tree (.int .i64 (cmpX (ks.getD 0 nilT') (ks'.getD 0 nilT'))), [[], []]) := by
        rcases getD_kid ks 0 with h | ⟨r, h⟩
        · rw [h, cmpX_nil]; exact tcmp_nil (m+2) _
        · have := kids_ht ks 0 _ r h
          exact IH (m+11) (by omega) _ _ (by omega) (by omega) q0.1 p0.1
      generalize ks.getD 0 nilT' = x at hc q0 k1 hh
      generalize ks.getD 1 nilT' = y at hc q1 k2
      generalize ks'.getD 0 nilT' = x' at hc p0 k3 hh
      generalize ks'.getD 1 nilT' = y' at hc p1 k4
      have k5 := callQ_trees (f := 96) (vs := [encT x, encT x']) rfl hh
      simp only [encT, cellsT] at k1 k2 k3 k4 k5 j2 j3
      by_cases g : cmpX x x' = 0
      · have g' : (cmpX x x' != 0) = false := by rw [g]; rfl
        rw [or2_0 g] at hc
        simp only [simB, zbo, Nat.reduceBEq, own0, ↓reduceIte, Nat.reduceEqDiff, Nat.reduceAdd, simL, simN, Nat.zero_add, e2, e3, j2, j3, faT_0, ldT_0, ldT_a, i_eqlV, hq, k1, k2, k3, k4, k5, g', st_Tt, stT_6, stT_u]
        exact ih (y, y') _ _ (by simp only; omega) (by simp only [hc]) ⟨(by simp only [zfp, ↓reduceIte, Nat.reduceEqDiff, e2]; try rfl), (by simp only [zfp, ↓reduceIte, Nat.reduceEqDiff, e3]; try rfl), (by simp only [zfp, ↓reduceIte, Nat.reduceEqDiff]; try rfl), (by simp only [zfp, ↓reduceIte, Nat.reduceEqDiff]; try rfl), by simp only; omega, by simp only; omega, q1.1, p1.1⟩
      · have g' : (cmpX x x' != 0) = true := by rw [bne_iff_ne]; exact g
        rw [or2_n g] at hc
        simp only [hc]
        simp only [simB, zbo, Nat.reduceBEq, own0, ↓reduceIte, Nat.reduceEqDiff, Nat.reduceAdd, simL, simN, Nat.zero_add, e2, e3, j2, j3, faT_0, ldT_0, ldT_a, i_eqlV, hq, k1, k2, k3, k4, k5, g', st_Tt, stT_6, stT_u]
        exact finish_i _ _ _ _ _ _ _ (by simp only [zfp, ↓reduceIte, Nat.reduceEqDiff]; try rfl) rfl
    · have hc := cmpX_no k n1 lg l s i1 kg ks (.mk k' n2 lg' l' s' i2 kg' ks') h4
      simp only [kindT, kidsT, strT, numT, nT] at hc
      have r1 := callQ_trees (f := 124) (vs := [.int .i64 k]) rfl (trkX (m+9) k)
      have r2 := callQ_trees (f := 124) (vs := [.int .i64 k']) rfl (trkX (m+9) k')
      have r3 := callQ_trees (f := 123) (vs := [.int .i64 (rkX k), .int .i64 (rkX k')]) rfl (cmpCI_eq 100000 (m+9) (rkX k) (rkX k'))
      have c1 := fun D st => callA_trees (cfg := cfg0) (d := D) (s := st) (f := 125) (vs := [encA n1 lg l, encA n2 lg' l']) (by cases lg <;> cases lg' <;> rfl) (ncmp_eq 100000 (m+7) (by decide) (isN_A n1 lg l ga.1) (isN_A n2 lg' l' gb.1))
      have c2 := fun D st => callA_trees (cfg := cfg0) (d := D) (s := st) (f := 126) (vs := [.str s, .str s']) rfl (cmpCS_eq 100000 (m+9) s s')
      have c2q := callQ_trees (f := 126) (vs := [.str s, .str s']) rfl (cmpCS_eq 100000 (m+9) s s')
      have c4 := fun D st => callA_trees (cfg := cfg0) (d := D) (s := st) (f := 123) (vs := [.int .i64 i1, .int .i64 i2]) rfl (cmpCI_eq 100000 (m+9) i1 i2)
      have c4q := callQ_trees (f := 123) (vs := [.int .i64 i1, .int .i64 i2]) rfl (cmpCI_eq 100000 (m+9) i1 i2)
      have c5 := fun x y => callQ_trees (f := 127) (vs := [.sl [.int .i64 x, .int .i64 y] 2 .tight]) rfl (orI_eq 100000 (m+10) (by decide) x y .tight)
      simp only [encA] at c1
      by_cases g : three (rkX k) (rkX k') = 0
      · have g' : (three (rkX k) (rkX k') != 0) = false := by rw [g]; rfl
        rw [or2_0 g] at hc
        simp only [hc]
        rcases rkX_eq k k' g with hkk | ⟨o1, o2⟩
        · subst hkk
          have k4 : k ≠ 4 := fun e => h4 ⟨e, e⟩
          have b4 : (k == 4) = false := beq_eq_false_iff_ne.mpr k4
          have isk : ∀ g : Gk, ∀ ks : List T, isTree (.sl (cellsK ks) ks.length (gr g)) = true := by intro g ks; cases g <;> rfl
          have hhk : htK ks ≤ d := by simp only [htT] at hht; omega
          have hnk : nodK ks ≤ 999 := by simp only [nodT] at hnod; omega
          have hkl : ks.length ≤ 1000 := by have := nodK_len ks; omega
          have ht := tuplesX_eq (m+8) ks ks' kg kg' hkl (fun i j x y q r h1 h2 => IH (m+9) (by omega) x y (by have := kids_ht ks i x q h1; omega) (by have := kids_nod ks i x q h1; omega) (bigK_at _ ks i x q h1 ga.2.2) (bigK_at _ ks' j y r h2 gb.2.2))
          have c3 := fun D st => callA_trees (cfg := cfg0) (d := D) (s := st) (f := 128) (vs := [.sl (cellsK ks) ks.length (gr kg), .sl (cellsK ks') ks'.length (gr kg')]) (by simp only [List.all_cons, isk, Bool.true_and]; rfl) ht
          have c3q := callQ_trees (f := 128) (vs := [.sl (cellsK ks) ks.length (gr kg), .sl (cellsK ks') ks'.length (gr kg')]) (by simp only [List.all_cons, isk, Bool.true_and]; rfl) ht
          have cc : k = 1 ∨ k = 2 ∨ k = 6 ∨ k = 5 ∨ k = 7 ∨ k = 8 ∨ k = 9 ∨ (k ≠ 1 ∧ k ≠ 2 ∧ k ≠ 6 ∧ k ≠ 5 ∧ k ≠ 7 ∧ k ≠ 8 ∧ k ≠ 9) := by omega
          rcases cc with rfl | rfl | rfl | rfl | rfl | rfl | rfl | ⟨x1, x2, x6, x5, x7, x8, x9⟩
          · simp only [simB, zbo, Nat.reduceBEq, own0, ↓reduceIte, Nat.reduceEqDiff, Nat.reduceAdd, simL, simN, Nat.zero_add, e2, e3, j2, j3, faT_0, faT_1, faT_2, faT_3, faT_4, ldT_0, ldT_1, ldT_2, ldT_3, ldT_4, Nat.reduceAdd, i_eqlV, b4, Int.reduceBEq, Int.reduceEq, true_or, or_true, false_or, or_false, ↓reduceIte, r1, r2, r3, g', c1]
            exact finish_i _ _ _ _ _ _ _ (by simp only [zfp, ↓reduceIte, Nat.reduceEqDiff]; try rfl) rfl
          · simp only [simB, zbo, Nat.reduceBEq, own0, ↓reduceIte, Nat.reduceEqDiff, Nat.reduceAdd, simL, simN, Nat.zero_add, e2, e3, j2, j3, faT_0, faT_1, faT_2, faT_3, faT_4, ldT_0, ldT_1, ldT_2, ldT_3, ldT_4, Nat.reduceAdd, i_eqlV, b4, Int.reduceBEq, Int.reduceEq, true_or, or_true, false_or, or_false, ↓reduceIte, r1, r2, r3, g', c2]
            exact finish_i _ _ _ _ _ _ _ (by simp only [zfp, ↓reduceIte, Nat.reduceEqDiff]; try rfl) rfl
          · simp only [simB, zbo, Nat.reduceBEq, own0, ↓reduceIte, Nat.reduceEqDiff, Nat.reduceAdd, simL, simN, Nat.zero_add, e2, e3, j2, j3, faT_0, faT_1, faT_2, faT_3, faT_4, ldT_0, ldT_1, ldT_2, ldT_3, ldT_4, Nat.reduceAdd, i_eqlV, b4, Int.reduceBEq, Int.reduceEq, true_or, or_true, false_or, or_false, ↓reduceIte, r1, r2, r3, g', c2]
            exact finish_i _ _ _ _ _ _ _ (by simp only [zfp, ↓reduceIte, Nat.reduceEqDiff]; try rfl) rfl
          · simp only [simB, zbo, Nat.reduceBEq, own0, ↓reduceIte, Nat.reduceEqDiff, Nat.reduceAdd, simL, simN, Nat.zero_add, e2, e3, j2, j3, faT_0, faT_1, faT_2, faT_3, faT_4, ldT_0, ldT_1, ldT_2, ldT_3, ldT_4, Nat.reduceAdd, i_eqlV, b4, Int.reduceBEq, Int.reduceEq, true_or, or_true, false_or, or_false, ↓reduceIte, r1, r2, r3, g', c3]
            exact finish_i _ _ _ _ _ _ _ (by simp only [zfp, ↓reduceIte, Nat.reduceEqDiff]; try rfl) rfl
          · simp only [simB, zbo, Nat.reduceBEq, own0, ↓reduceIte, Nat.reduceEqDiff, Nat.reduceAdd, simL, simN, Nat.zero_add, e2, e3, j2, j3, faT_0, faT_1, faT_2, faT_3, faT_4, ldT_0, ldT_1, ldT_2, ldT_3, ldT_4, Nat.reduceAdd, i_eqlV, b4, Int.reduceBEq, Int.reduceEq, true_or, or_true, false_or, or_false, ↓reduceIte, r1, r2, r3, g', c3q, c4q, c5, opA_two33, two33_int]
            exact finish_i _ _ _ _ _ _ _ (by simp only [zfp, ↓reduceIte, Nat.reduceEqDiff]; try rfl) rfl
          · simp only [simB, zbo, Nat.reduceBEq, own0, ↓reduceIte, Nat.reduceEqDiff, Nat.reduceAdd, simL, simN, Nat.zero_add, e2, e3, j2, j3, faT_0, faT_1, faT_2, faT_3, faT_4, ldT_0, ldT_1, ldT_2, ldT_3, ldT_4, Nat.reduceAdd, i_eqlV, b4, Int.reduceBEq, Int.reduceEq, true_or, or_true, false_or, or_false, ↓reduceIte, r1, r2, r3, g', c2q, c4q, c5, opA_two33, two33_int]
            exact finish_i _ _ _ _ _ _ _ (by simp only [zfp, ↓reduceIte, Nat.reduceEqDiff]; try rfl) rfl
          · simp only [simB, zbo, Nat.reduceBEq, own0, ↓reduceIte, Nat.reduceEqDiff, Nat.reduceAdd, simL, simN, Nat.zero_add, e2, e3, j2, j3, faT_0, faT_1, faT_2, faT_3, faT_4, ldT_0, ldT_1, ldT_2, ldT_3, ldT_4, Nat.reduceAdd, i_eqlV, b4, Int.reduceBEq, Int.reduceEq, true_or, or_true, false_or, or_false, ↓reduceIte, r1, r2, r3, g', c4]
            exact finish_i _ _ _ _ _ _ _ (by simp only [zfp, ↓reduceIte, Nat.reduceEqDiff]; try rfl) rfl
          · have b1 : (k == 1) = false := beq_eq_false_iff_ne.mpr x1
            have b2 : (k == 2) = false := beq_eq_false_iff_ne.mpr x2
            have b6 : (k == 6) = false := beq_eq_false_iff_ne.mpr x6
            have b5 : (k == 5) = false := beq_eq_false_iff_ne.mpr x5
            have b7 : (k == 7) = false := beq_eq_false_iff_ne.mpr x7
            have b8 : (k == 8) = false := beq_eq_false_iff_ne.mpr x8
            have b9 : (k == 9) = false := beq_eq_false_iff_ne.mpr x9
            rw [if_neg x1, if_neg (by omega), if_neg x7, if_neg x5, if_neg x8, if_neg x9]
            simp only [simB, zbo, Nat.reduceBEq, own0, ↓reduceIte, Nat.reduceEqDiff, Nat.reduceAdd, simL, simN, Nat.zero_add, e2, e3, j2, j3, faT_0, ldT_0, i_eqlV, b4, b1, b2, b5, b6, b7, b8, b9, r1, r2, r3, g']
            exact finish_i _ _ _ _ _ _ _ (by simp only [zfp, ↓reduceIte, Nat.reduceEqDiff]; try rfl) rfl
        · have b1 : (k == 1) = false := beq_eq_false_iff_ne.mpr (by omega)
          have b2 : (k == 2) = false := beq_eq_false_iff_ne.mpr (by omega)
          have b6 : (k == 6) = false := beq_eq_false_iff_ne.mpr (by omega)
          have b5 : (k == 5) = false := beq_eq_false_iff_ne.mpr (by omega)
          have b7 : (k == 7) = false := beq_eq_false_iff_ne.mpr (by omega)
          have b8 : (k == 8) = false := beq_eq_false_iff_ne.mpr (by omega)
          have b9 : (k == 9) = false := beq_eq_false_iff_ne.mpr (by omega)
          have b4 : (k == 4) = false := beq_eq_false_iff_ne.mpr (by omega)
          rw [if_neg (by omega), if_neg (by omega), if_neg (by omega), if_neg (by omega), if_neg (by omega), if_neg (by omega)]
          simp only [simB, zbo, Nat.reduceBEq, own0, ↓reduceIte, Nat.reduceEqDiff, Nat.reduceAdd, simL, simN, Nat.zero_add, e2, e3, j2, j3, faT_0, ldT_0, i_eqlV, b4, b1, b2, b5, b6, b7, b8, b9, r1, r2, r3, g']
          exact finish_i _ _ _ _ _ _ _ (by simp only [zfp, ↓reduceIte, Nat.reduceEqDiff]; try rfl) rfl
      · have g' : (three (rkX k) (rkX k') != 0) = true := by rw [bne_iff_ne]; exact g
        rw [or2_n g] at hc
        simp only [hc]
        by_cases k4 : k = 4
        · have b4 : (k == 4) = true := by rw [k4]; rfl
          have b5 : (k' == 4) = false := beq_eq_false_iff_ne.mpr fun e => h4 ⟨k4, e⟩
          simp only [simB, zbo, Nat.reduceBEq, own0, ↓reduceIte, Nat.reduceEqDiff, Nat.reduceAdd, simL, simN, Nat.zero_add, e2, e3, j2, j3, faT_0, ldT_0, i_eqlV, b4, b5, r1, r2, r3, g']
          exact finish_i _ _ _ _ _ _ _ (by simp only [zfp, ↓reduceIte, Nat.reduceEqDiff]; try rfl) rfl
        · have b4 : (k == 4) = false := beq_eq_false_iff_ne.mpr k4
          simp only [simB, zbo, Nat.reduceBEq, own0, ↓reduceIte, Nat.reduceEqDiff, Nat.reduceAdd, simL, simN, Nat.zero_add, e2, e3, j2, j3, faT_0, ldT_0, i_eqlV, b4, r1, r2, r3, g']
          exact finish_i _ _ _ _ _ _ _ (by simp only [zfp, ↓reduceIte, Nat.reduceEqDiff]; try rfl) rfl
end Go.Ab
