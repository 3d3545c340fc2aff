/- Several texts put together: AbzV15, AbzV16, AbzV17, AbzV18, AbzV19, AbzLawBCalls. Conditions: as each part says. -/
import Derived.Test.YtpgnjcckmmkmkaaGreatDoorAbBCallsZ09
import Derived.Test.YtpgnjcckmmkmkaaGreatDoorAbBCallsZ06
import Derived.Test.YtpgnjcckmmkmkaaGreatDoorAbBCallsZ08
/- relictref19.Call by what ones or more answer (CFG4; printed by genrcall.py). Conditions: so many nodes at most. -/
namespace Go.Ab
open Go.Proofs
set_option maxRecDepth 100000
set_option linter.unusedSimpArgs false

theorem tkQ : tkOf Tryz.prog 35 = .st := by kernel_rfl
theorem eszQ : esz Tryz.prog 35 = some 7 := by kernel_rfl
theorem shQ : shOf Tryz.prog 35 = some (true, 7) := by kernel_rfl
theorem zeroQ : zeroOf Tryz.prog 35 = some zErr := by kernel_rfl
theorem plQ : placesA Tryz.prog 35 = some [(0, 1), (1, 6)] := by kernel_rfl
theorem bdQ_ : buildA Tryz.prog 35 [] = some (.agg zErr) := by
  simp only [buildA, zeroQ, tkQ, plQ, Option.bind_some, fillA]; rfl
theorem bdQ_g (x : List UInt8) (r : T) : buildA Tryz.prog 35 [(0, .str x), (1, .agg (cellsT r))] = some (.agg (errG x r)) := by
  obtain ⟨k, b, lg, l, s, m, kg, ks⟩ := r
  simp only [buildA, zeroQ, tkQ, plQ, Option.bind_some, cellsT]
  cases lg <;> cases kg <;> rfl
theorem st_Qg (s : St) (p k : Nat) (ys : List AV) (hl : ys.length = 7) : storeA Tryz.prog 35 s (.ptr p k 0) (.agg ys) = stT (s p) p k s ys := by
  simp only [storeA, settle, Option.bind_some, stT]
  cases h : s p with
  | mk t c => cases c <;> simp [eszQ, hl]
theorem st_QG (s : St) (p k : Nat) (x : List UInt8) (r : T) : storeA Tryz.prog 35 s (.ptr p k 0) (.agg (errG x r)) = stT (s p) p k s (errG x r) := st_Qg _ _ _ _ (errG_len x r)
theorem st_Qz (s : St) (p k : Nat) : storeA Tryz.prog 35 s (.ptr p k 0) (.agg zErr) = stT (s p) p k s zErr := st_Qg _ _ _ _ rfl
theorem ldQ_g (t k : Nat) (ys : List AV) (hl : ys.length = 7) : ldE Tryz.prog 35 ⟨t, .buf ys⟩ k 0 = if t = k then some (.agg ys) else none := by
  rw [ldE_buf, cellsE_buf]
  by_cases h : t = k
  · simp [h, partA, shQ, hl]
    exact List.take_of_length_le (by omega)
  · simp [h]
theorem finish_Q3 (k : Bool) (xs : List Arg) (a p e : Nat) (u : T) (b q e' : Nat) (t : Nat) (v : Bool) (env : Env) (s : St) (os : List (List AV)) (ys : List AV) (hl : ys.length = 7) (ha : env a = .ptr p e 0) (hs : s p = ⟨e, .buf (cellsT u)⟩) (hb : env b = .ptr q e' 0) (hq : s q = ⟨e', .buf ys⟩) (hv : env t = .bool v) (ho : outsA s 0 xs = some os) :
    finishP Tryz.prog k xs #[.cell a 29, .cell b 35, .tmp t] env s = some (.tree (.tup [encT u, .agg ys, .bool v]), os) := by
  have hl1 : loadA Tryz.prog 29 s (env a) = some (.agg (cellsT u)) := by rw [ha, zeo, hs, ldT_u, if_pos rfl]
  have hl2 : loadA Tryz.prog 35 s (env b) = some (.agg ys) := by rw [hb, zeo, hq, ldQ_g _ _ _ hl, if_pos rfl]
  simp [finishP, isTmpR, rvA, hl1, hl2, hv, settleL, settle, ho, encT]
def isThr (s : List UInt8) : Bool := (s == w_error) || ((s == w_exit) || (s == w_throw))
section
variable (n d : Nat) (m s : List UInt8) (us : List T) (g : Grip) (hg : g.isTok = false)
include hg
omit hg in
set_option maxHeartbeats 8000000 in
theorem rcallU_undef (hh : hasW m s us.length = false) : evalFn Tryz.prog cfg4 n (d+4) 10 [.tree (.str m), .tree (.str s), .tree (.sl (cellsK us) us.length g)] = some (.tree (.tup [encT T0, .agg (errG sErrW (atomT sUndefW)), .bool false]), [[], [], []]) := by
  have h1 := rhas_eq 9223372036854775808 6189 (by decide) (by decide) m s (us.length : Int)
  rw [hh] at h1
  have c1 := fun D st => callA_trees (cfg := cfg4) (d := D) (s := st) (f := 13) (vs := [.str m, .str s, .int .i64 (us.length : Int)]) rfl (ev4 (n := n) (d := d+2) rfl rfl h1)
  have c4 := fun D st => callA_trees (cfg := cfg4) (d := D) (s := st) (f := 30) (vs := [.str sUndefW]) rfl (ev4 (n := n) (d := d+2) rfl rfl (ratom_eq 9223372036854775808 6189 sUndefW))
  rw [evalFn_goP _ Tryz.func10 (by unfold Tryz.f10; rfl) (by unfold Tryz.f10; decide) (Nat.le_of_ble_eq_true (by unfold Tryz.f10; rfl)) (by kernel_rfl)]
  simp only [encT] at c4
  simp only [sUndefW] at c4
  have b2 := bdQ_g sErrW (atomT sUndefW)
  have hst := fun st p k => st_QG st p k sErrW (atomT sUndefW)
  have hst2 := fun t k p st => stE_G t k p st sErrW (atomT sUndefW)
  simp only [sErrW, sUndefW] at b2 hst hst2
  simp only [simP, simB, keep4, Nat.reduceBEq, own4, String.reduceAppend, String.reduceBEq, Bool.or_false, Bool.or_true, Bool.or_self, ↓reduceIte, Nat.reduceEqDiff, Nat.reduceAdd, simA, simL, simN, Nat.zero_add, zex, List.toList_toArray, len9, ix9, zey, zez, zfa, zfb, zfc, zeroT, zeroQ, lenTk, c1, c4, unA_not', Bool.not_true, Bool.not_false, zdu, ldT_u, bdT_00, b2, st_Tt, stT_6, hst, hst2]
  exact finish_Q3 _ _ _ _ _ T0 _ _ _ _ _ _ _ _ (errG sErrW (atomT sUndefW)) rfl (by simp only [zfr, ↓reduceIte, Nat.reduceEqDiff]; try rfl) (by simp only [zfr, ↓reduceIte, Nat.reduceEqDiff]; try rfl) (by simp only [zfr, ↓reduceIte, Nat.reduceEqDiff]; try rfl) (by simp only [zfr, ↓reduceIte, Nat.reduceEqDiff]; try rfl) (by simp only [zfr, ↓reduceIte, Nat.reduceEqDiff]; try rfl) rfl
omit hg in
set_option maxHeartbeats 8000000 in
theorem rcallU_thrown (t : T) (r : List T) (hm : m = erlW) (hus : us = t :: r) (hh : hasW m s us.length = true) (ht : isThr s = true) : evalFn Tryz.prog cfg4 n (d+4) 10 [.tree (.str m), .tree (.str s), .tree (.sl (cellsK us) us.length g)] = some (.tree (.tup [encT T0, .agg (errG s t), .bool false]), [[], [], []]) := by
  have h1 := rhas_eq 9223372036854775808 6189 (by decide) (by decide) m s (us.length : Int)
  rw [hh] at h1
  have c1 := fun D st => callA_trees (cfg := cfg4) (d := D) (s := st) (f := 13) (vs := [.str m, .str s, .int .i64 (us.length : Int)]) rfl (ev4 (n := n) (d := d+2) rfl rfl h1)
  have ia : ∀ st : St, indexAddrA Tryz.prog 22 st (.sl (cellsK (t :: r)) (t :: r).length g) (.int .i64 0) = some (.rptr (cellsK (t :: r))) := fun st => ia_K st (t :: r) g 0 (Nat.zero_lt_succ _)
  have ld := fun st => ld_KW st t r
  have w5 : (m == ([101, 114, 108, 97, 110, 103] : List UInt8)) = true := by rw [hm]; decide
  have hc : ((s == ([101, 114, 114, 111, 114] : List UInt8)) = true) ∨ ((s == ([101, 114, 114, 111, 114] : List UInt8)) = false ∧ (s == ([101, 120, 105, 116] : List UInt8)) = true) ∨ ((s == ([101, 114, 114, 111, 114] : List UInt8)) = false ∧ (s == ([101, 120, 105, 116] : List UInt8)) = false ∧ (s == ([116, 104, 114, 111, 119] : List UInt8)) = true) := by
    simp only [isThr, w_error, w_exit, w_throw] at ht
    cases h1 : (s == ([101, 114, 114, 111, 114] : List UInt8)) with
    | true => exact .inl rfl
    | false =>
      cases h2 : (s == ([101, 120, 105, 116] : List UInt8)) with
      | true => exact .inr (.inl ⟨rfl, rfl⟩)
      | false => rw [h1, h2, Bool.false_or, Bool.false_or] at ht; exact .inr (.inr ⟨rfl, rfl, ht⟩)
  rw [evalFn_goP _ Tryz.func10 (by unfold Tryz.f10; rfl) (by unfold Tryz.f10; decide) (Nat.le_of_ble_eq_true (by unfold Tryz.f10; rfl)) (by kernel_rfl)]
  rw [hus] at c1 ⊢
  rcases hc with e1 | ⟨e1, e2⟩ | ⟨e1, e2, e3⟩
  · simp only [simP, simB, keep4, Nat.reduceBEq, own4, String.reduceAppend, String.reduceBEq, Bool.or_false, Bool.or_true, Bool.or_self, ↓reduceIte, Nat.reduceEqDiff, Nat.reduceAdd, simA, simL, simN, Nat.zero_add, zex, List.toList_toArray, len9, ix9, zey, zez, zfa, zfb, zfc, zeroT, zeroQ, lenTk, c1, s_eqlS, w5, e1, unA_not', Bool.not_true, Bool.not_false, ia, ld, bdT_00, bdQ_g, st_Tt, stT_6, st_QG, stE_G]
    rw [prune_L (c := .seq (.goto 37) (.seq (.goto 37) .skip)) (by rfl) (by rfl)]
    simp only [simB, keep4, Nat.reduceBEq, own4, String.reduceAppend, String.reduceBEq, Bool.or_false, Bool.or_true, Bool.or_self, ↓reduceIte, Nat.reduceEqDiff, Nat.reduceAdd, simA, simL, simN, Nat.zero_add, zex, List.toList_toArray, len9, ix9, zey, zez, zfa, zfb, zfc, den_gotoV, gotoV_r, zeroT, zeroQ, lenTk, ia, ld, bdT_00, bdQ_g, st_Tt, stT_6, st_QG, stE_G]
    exact finish_Q3 _ _ _ _ _ T0 _ _ _ _ _ _ _ _ (errG s t) (errG_len s t) (by simp only [zfr, ↓reduceIte, Nat.reduceEqDiff]; try rfl) (by simp only [zfr, ↓reduceIte, Nat.reduceEqDiff]; try rfl) (by simp only [zfr, ↓reduceIte, Nat.reduceEqDiff]; try rfl) (by simp only [zfr, ↓reduceIte, Nat.reduceEqDiff]; try rfl) (by simp only [zfr, ↓reduceIte, Nat.reduceEqDiff]; try rfl) rfl
  · simp only [simP, simB, keep4, Nat.reduceBEq, own4, String.reduceAppend, String.reduceBEq, Bool.or_false, Bool.or_true, Bool.or_self, ↓reduceIte, Nat.reduceEqDiff, Nat.reduceAdd, simA, simL, simN, Nat.zero_add, zex, List.toList_toArray, len9, ix9, zey, zez, zfa, zfb, zfc, zeroT, zeroQ, lenTk, c1, s_eqlS, w5, e1, e2, unA_not', Bool.not_true, Bool.not_false, ia, ld, bdT_00, bdQ_g, st_Tt, stT_6, st_QG, stE_G]
    rw [prune_L (c := .seq (.goto 37) (.seq (.goto 37) .skip)) (by rfl) (by rfl)]
    simp only [simB, keep4, Nat.reduceBEq, own4, String.reduceAppend, String.reduceBEq, Bool.or_false, Bool.or_true, Bool.or_self, ↓reduceIte, Nat.reduceEqDiff, Nat.reduceAdd, simA, simL, simN, Nat.zero_add, zex, List.toList_toArray, len9, ix9, zey, zez, zfa, zfb, zfc, den_gotoV, gotoV_r, zeroT, zeroQ, lenTk, ia, ld, bdT_00, bdQ_g, st_Tt, stT_6, st_QG, stE_G]
    exact finish_Q3 _ _ _ _ _ T0 _ _ _ _ _ _ _ _ (errG s t) (errG_len s t) (by simp only [zfr, ↓reduceIte, Nat.reduceEqDiff]; try rfl) (by simp only [zfr, ↓reduceIte, Nat.reduceEqDiff]; try rfl) (by simp only [zfr, ↓reduceIte, Nat.reduceEqDiff]; try rfl) (by simp only [zfr, ↓reduceIte, Nat.reduceEqDiff]; try rfl) (by simp only [zfr, ↓reduceIte, Nat.reduceEqDiff]; try rfl) rfl
  · simp only [simP, simB, keep4, Nat.reduceBEq, own4, String.reduceAppend, String.reduceBEq, Bool.or_false, Bool.or_true, Bool.or_self, ↓reduceIte, Nat.reduceEqDiff, Nat.reduceAdd, simA, simL, simN, Nat.zero_add, zex, List.toList_toArray, len9, ix9, zey, zez, zfa, zfb, zfc, zeroT, zeroQ, lenTk, c1, s_eqlS, w5, e1, e2, e3, unA_not', Bool.not_true, Bool.not_false, ia, ld, bdT_00, bdQ_g, st_Tt, stT_6, st_QG, stE_G]
    rw [prune_L (c := .seq (.goto 37) (.seq (.goto 37) .skip)) (by rfl) (by rfl)]
    simp only [simB, keep4, Nat.reduceBEq, own4, String.reduceAppend, String.reduceBEq, Bool.or_false, Bool.or_true, Bool.or_self, ↓reduceIte, Nat.reduceEqDiff, Nat.reduceAdd, simA, simL, simN, Nat.zero_add, zex, List.toList_toArray, len9, ix9, zey, zez, zfa, zfb, zfc, den_gotoV, gotoV_r, zeroT, zeroQ, lenTk, ia, ld, bdT_00, bdQ_g, st_Tt, stT_6, st_QG, stE_G]
    exact finish_Q3 _ _ _ _ _ T0 _ _ _ _ _ _ _ _ (errG s t) (errG_len s t) (by simp only [zfr, ↓reduceIte, Nat.reduceEqDiff]; try rfl) (by simp only [zfr, ↓reduceIte, Nat.reduceEqDiff]; try rfl) (by simp only [zfr, ↓reduceIte, Nat.reduceEqDiff]; try rfl) (by simp only [zfr, ↓reduceIte, Nat.reduceEqDiff]; try rfl) (by simp only [zfr, ↓reduceIte, Nat.reduceEqDiff]; try rfl) rfl
set_option maxHeartbeats 8000000 in
theorem rcall_one_bad (u : T) (hh : hasW m s us.length = true) (hc : m ≠ erlW ∨ isThr s = false) (t : T) (hus : us = [t]) (ha : evalFn Tryz.prog cfg0 9223372036854775808 6190 36 [.tree (.str s), .tree (encT t)] = some (.tree (.tup [encT u, .bool false]), [[], []])) : evalFn Tryz.prog cfg4 n (d+4) 10 [.tree (.str m), .tree (.str s), .tree (.sl (cellsK us) us.length g)] = some (.tree (.tup [encT T0, .agg (errG sErrW (atomT sBad)), .bool false]), [[], [], []]) := by
  have h1 := rhas_eq 9223372036854775808 6189 (by decide) (by decide) m s (us.length : Int)
  rw [hh] at h1
  have hT := okTreeW us g hg
  have c1 := fun D st => callA_trees (cfg := cfg4) (d := D) (s := st) (f := 13) (vs := [.str m, .str s, .int .i64 (us.length : Int)]) rfl (ev4 (n := n) (d := d+2) rfl rfl h1)
  have c3 := fun D st => callA_trees (cfg := cfg4) (d := D) (s := st) (f := 36) (vs := [.str s, encT t]) rfl (ev4 (n := n) (d := d+2) rfl rfl ha)
  have ia : ∀ st : St, indexAddrA Tryz.prog 22 st (.sl (cellsK [t]) [t].length g) (.int .i64 0) = some (.rptr (cellsK [t])) := fun st => ia_K st [t] g 0 (Nat.zero_lt_succ _)
  have ld := fun st => ld_KW st t []
  have b1 : ((([t].length : Nat) : Int) == 1) = true := rfl
  subst hus
  have he : m ≠ erlW ∨ ((s == ([101, 114, 114, 111, 114] : List UInt8)) = false ∧ (s == ([101, 120, 105, 116] : List UInt8)) = false ∧ (s == ([116, 104, 114, 111, 119] : List UInt8)) = false) := by
    rcases hc with h | h
    · exact .inl h
    · simp only [isThr, w_error, w_exit, w_throw, Bool.or_eq_false_iff] at h
      exact .inr h
  have c4 := fun D st => callA_trees (cfg := cfg4) (d := D) (s := st) (f := 30) (vs := [.str sBad]) rfl (ev4 (n := n) (d := d+2) rfl rfl (ratom_eq 9223372036854775808 6189 sBad))
  rw [evalFn_goP _ Tryz.func10 (by unfold Tryz.f10; rfl) (by unfold Tryz.f10; decide) (Nat.le_of_ble_eq_true (by unfold Tryz.f10; rfl)) (by kernel_rfl)]
  simp only [encT] at c3 c4
  simp only [sBad] at c4
  have b2 := bdQ_g sErrW (atomT sBad)
  have hst := fun st p k => st_QG st p k sErrW (atomT sBad)
  have hst2 := fun t k p st => stE_G t k p st sErrW (atomT sBad)
  simp only [sErrW, sBad] at b2 hst hst2
  rcases he with he | ⟨e1, e2, e3⟩
  · have w5 : (m == ([101, 114, 108, 97, 110, 103] : List UInt8)) = false := beq_eq_false_iff_ne.mpr he
    simp only [simP, simB, keep4, Nat.reduceBEq, own4, String.reduceAppend, String.reduceBEq, Bool.or_false, Bool.or_true, Bool.or_self, ↓reduceIte, Nat.reduceEqDiff, Nat.reduceAdd, simA, simL, simN, Nat.zero_add, zex, List.toList_toArray, len9, ix9, zey, zez, zfa, zfb, zfc, zeroT, zeroQ, lenTk, i_eqlV, c1, b1, s_eqlS, w5, ia, ld, c3, c4, unA_not', Bool.not_true, Bool.not_false, zdu, ldT_u, bdT_00, b2, st_Tt, stT_6, hst, hst2]
    exact finish_Q3 _ _ _ _ _ T0 _ _ _ _ _ _ _ _ (errG sErrW (atomT sBad)) rfl (by simp only [zfr, ↓reduceIte, Nat.reduceEqDiff]; try rfl) (by simp only [zfr, ↓reduceIte, Nat.reduceEqDiff]; try rfl) (by simp only [zfr, ↓reduceIte, Nat.reduceEqDiff]; try rfl) (by simp only [zfr, ↓reduceIte, Nat.reduceEqDiff]; try rfl) (by simp only [zfr, ↓reduceIte, Nat.reduceEqDiff]; try rfl) rfl
  · by_cases hm : m = erlW
    · have w5 : (m == ([101, 114, 108, 97, 110, 103] : List UInt8)) = true := by rw [hm]; decide
      simp only [simP, simB, keep4, Nat.reduceBEq, own4, String.reduceAppend, String.reduceBEq, Bool.or_false, Bool.or_true, Bool.or_self, ↓reduceIte, Nat.reduceEqDiff, Nat.reduceAdd, simA, simL, simN, Nat.zero_add, zex, List.toList_toArray, len9, ix9, zey, zez, zfa, zfb, zfc, zeroT, zeroQ, lenTk, i_eqlV, c1, b1, s_eqlS, w5, e1, e2, e3, ia, ld, c3, c4, unA_not', Bool.not_true, Bool.not_false, zdu, ldT_u, bdT_00, b2, st_Tt, stT_6, hst, hst2]
      exact finish_Q3 _ _ _ _ _ T0 _ _ _ _ _ _ _ _ (errG sErrW (atomT sBad)) rfl (by simp only [zfr, ↓reduceIte, Nat.reduceEqDiff]; try rfl) (by simp only [zfr, ↓reduceIte, Nat.reduceEqDiff]; try rfl) (by simp only [zfr, ↓reduceIte, Nat.reduceEqDiff]; try rfl) (by simp only [zfr, ↓reduceIte, Nat.reduceEqDiff]; try rfl) (by simp only [zfr, ↓reduceIte, Nat.reduceEqDiff]; try rfl) rfl
    · have w5 : (m == ([101, 114, 108, 97, 110, 103] : List UInt8)) = false := beq_eq_false_iff_ne.mpr hm
      simp only [simP, simB, keep4, Nat.reduceBEq, own4, String.reduceAppend, String.reduceBEq, Bool.or_false, Bool.or_true, Bool.or_self, ↓reduceIte, Nat.reduceEqDiff, Nat.reduceAdd, simA, simL, simN, Nat.zero_add, zex, List.toList_toArray, len9, ix9, zey, zez, zfa, zfb, zfc, zeroT, zeroQ, lenTk, i_eqlV, c1, b1, s_eqlS, w5, ia, ld, c3, c4, unA_not', Bool.not_true, Bool.not_false, zdu, ldT_u, bdT_00, b2, st_Tt, stT_6, hst, hst2]
      exact finish_Q3 _ _ _ _ _ T0 _ _ _ _ _ _ _ _ (errG sErrW (atomT sBad)) rfl (by simp only [zfr, ↓reduceIte, Nat.reduceEqDiff]; try rfl) (by simp only [zfr, ↓reduceIte, Nat.reduceEqDiff]; try rfl) (by simp only [zfr, ↓reduceIte, Nat.reduceEqDiff]; try rfl) (by simp only [zfr, ↓reduceIte, Nat.reduceEqDiff]; try rfl) (by simp only [zfr, ↓reduceIte, Nat.reduceEqDiff]; try rfl) rfl
set_option maxHeartbeats 8000000 in
theorem rcall_one_ok (u : T) (hn : nodT u ≤ 2000) (hh : hasW m s us.length = true) (hc : m ≠ erlW ∨ isThr s = false) (t : T) (hus : us = [t]) (ha : evalFn Tryz.prog cfg0 9223372036854775808 6190 36 [.tree (.str s), .tree (encT t)] = some (.tree (.tup [encT u, .bool true]), [[], []])) : evalFn Tryz.prog cfg4 n (d+4) 10 [.tree (.str m), .tree (.str s), .tree (.sl (cellsK us) us.length g)] = some (.tree (.tup [encT u, .agg zErr, .bool true]), [[], [], []]) := by
  have h1 := rhas_eq 9223372036854775808 6189 (by decide) (by decide) m s (us.length : Int)
  rw [hh] at h1
  have hT := okTreeW us g hg
  have c1 := fun D st => callA_trees (cfg := cfg4) (d := D) (s := st) (f := 13) (vs := [.str m, .str s, .int .i64 (us.length : Int)]) rfl (ev4 (n := n) (d := d+2) rfl rfl h1)
  have c3 := fun D st => callA_trees (cfg := cfg4) (d := D) (s := st) (f := 36) (vs := [.str s, encT t]) rfl (ev4 (n := n) (d := d+2) rfl rfl ha)
  have ia : ∀ st : St, indexAddrA Tryz.prog 22 st (.sl (cellsK [t]) [t].length g) (.int .i64 0) = some (.rptr (cellsK [t])) := fun st => ia_K st [t] g 0 (Nat.zero_lt_succ _)
  have ld := fun st => ld_KW st t []
  have b1 : ((([t].length : Nat) : Int) == 1) = true := rfl
  subst hus
  have he : m ≠ erlW ∨ ((s == ([101, 114, 114, 111, 114] : List UInt8)) = false ∧ (s == ([101, 120, 105, 116] : List UInt8)) = false ∧ (s == ([116, 104, 114, 111, 119] : List UInt8)) = false) := by
    rcases hc with h | h
    · exact .inl h
    · simp only [isThr, w_error, w_exit, w_throw, Bool.or_eq_false_iff] at h
      exact .inr h
  have c4 := fun D st => callA_trees (cfg := cfg4) (d := D) (s := st) (f := 38) (vs := [encT u, .int .i64 ((0 : Nat) : Int)]) rfl (ev4 (n := n) (d := d+2) rfl rfl (evalFn_mono (show 1000000 ≤ 9223372036854775808 by decide) 6190 6190 (Nat.le_refl _) _ _ _ (rMany_eq 1000000 (Nat.le_refl _) 6190 u 0 (by have := ht_nod u; omega) (by omega) (by omega))))
  rw [Nat.zero_add] at c4
  have c4 : ∀ D st, callA cfg4 (evalFn Tryz.prog cfg4 n (d+3)) D st 38 [encT u, .int .i64 0] = some (.int .i64 (nodT u : Int), st) := c4
  rw [evalFn_goP _ Tryz.func10 (by unfold Tryz.f10; rfl) (by unfold Tryz.f10; decide) (Nat.le_of_ble_eq_true (by unfold Tryz.f10; rfl)) (by kernel_rfl)]
  have q1 : ¬ ((nodT u : Int) > 2000) := by omega
  simp only [encT] at c3 c4
  rcases he with he | ⟨e1, e2, e3⟩
  · have w5 : (m == ([101, 114, 108, 97, 110, 103] : List UInt8)) = false := beq_eq_false_iff_ne.mpr he
    simp only [simP, simB, keep4, Nat.reduceBEq, own4, String.reduceAppend, String.reduceBEq, Bool.or_false, Bool.or_true, Bool.or_self, ↓reduceIte, Nat.reduceEqDiff, Nat.reduceAdd, simA, simL, simN, Nat.zero_add, zex, List.toList_toArray, len9, ix9, zey, zez, zfa, zfb, zfc, zeroT, zeroQ, lenTk, i_eqlV, c1, b1, s_eqlS, w5, ia, ld, c3, c4, unA_not', Bool.not_true, Bool.not_false, zdu, q1, ldT_u, bdQ_, st_Tt, stT_6, st_Qz, stE_z]
    exact finish_Q3 _ _ _ _ _ u _ _ _ _ _ _ _ _ zErr rfl (by simp only [zfr, ↓reduceIte, Nat.reduceEqDiff]; try rfl) (by simp only [zfr, ↓reduceIte, Nat.reduceEqDiff]; try rfl) (by simp only [zfr, ↓reduceIte, Nat.reduceEqDiff]; try rfl) (by simp only [zfr, ↓reduceIte, Nat.reduceEqDiff]; try rfl) (by simp only [zfr, ↓reduceIte, Nat.reduceEqDiff]; try rfl) rfl
  · by_cases hm : m = erlW
    · have w5 : (m == ([101, 114, 108, 97, 110, 103] : List UInt8)) = true := by rw [hm]; decide
      simp only [simP, simB, keep4, Nat.reduceBEq, own4, String.reduceAppend, String.reduceBEq, Bool.or_false, Bool.or_true, Bool.or_self, ↓reduceIte, Nat.reduceEqDiff, Nat.reduceAdd, simA, simL, simN, Nat.zero_add, zex, List.toList_toArray, len9, ix9, zey, zez, zfa, zfb, zfc, zeroT, zeroQ, lenTk, i_eqlV, c1, b1, s_eqlS, w5, e1, e2, e3, ia, ld, c3, c4, unA_not', Bool.not_true, Bool.not_false, zdu, q1, ldT_u, bdQ_, st_Tt, stT_6, st_Qz, stE_z]
      exact finish_Q3 _ _ _ _ _ u _ _ _ _ _ _ _ _ zErr rfl (by simp only [zfr, ↓reduceIte, Nat.reduceEqDiff]; try rfl) (by simp only [zfr, ↓reduceIte, Nat.reduceEqDiff]; try rfl) (by simp only [zfr, ↓reduceIte, Nat.reduceEqDiff]; try rfl) (by simp only [zfr, ↓reduceIte, Nat.reduceEqDiff]; try rfl) (by simp only [zfr, ↓reduceIte, Nat.reduceEqDiff]; try rfl) rfl
    · have w5 : (m == ([101, 114, 108, 97, 110, 103] : List UInt8)) = false := beq_eq_false_iff_ne.mpr hm
      simp only [simP, simB, keep4, Nat.reduceBEq, own4, String.reduceAppend, String.reduceBEq, Bool.or_false, Bool.or_true, Bool.or_self, ↓reduceIte, Nat.reduceEqDiff, Nat.reduceAdd, simA, simL, simN, Nat.zero_add, zex, List.toList_toArray, len9, ix9, zey, zez, zfa, zfb, zfc, zeroT, zeroQ, lenTk, i_eqlV, c1, b1, s_eqlS, w5, ia, ld, c3, c4, unA_not', Bool.not_true, Bool.not_false, zdu, q1, ldT_u, bdQ_, st_Tt, stT_6, st_Qz, stE_z]
      exact finish_Q3 _ _ _ _ _ u _ _ _ _ _ _ _ _ zErr rfl (by simp only [zfr, ↓reduceIte, Nat.reduceEqDiff]; try rfl) (by simp only [zfr, ↓reduceIte, Nat.reduceEqDiff]; try rfl) (by simp only [zfr, ↓reduceIte, Nat.reduceEqDiff]; try rfl) (by simp only [zfr, ↓reduceIte, Nat.reduceEqDiff]; try rfl) (by simp only [zfr, ↓reduceIte, Nat.reduceEqDiff]; try rfl) rfl
set_option maxHeartbeats 8000000 in
theorem rcall_more_bad (u : T) (hh : hasW m s us.length = true) (hc : m ≠ erlW ∨ isThr s = false) (hl : us.length ≠ 1) (ha : evalFn Tryz.prog cfg4 n (d+3) 37 [.tree (.str s), .tree (.sl (cellsK us) us.length g)] = some (.tree (.tup [encT u, .bool false]), [[], []])) : evalFn Tryz.prog cfg4 n (d+4) 10 [.tree (.str m), .tree (.str s), .tree (.sl (cellsK us) us.length g)] = some (.tree (.tup [encT T0, .agg (errG sErrW (atomT sBad)), .bool false]), [[], [], []]) := by
  have h1 := rhas_eq 9223372036854775808 6189 (by decide) (by decide) m s (us.length : Int)
  rw [hh] at h1
  have hT := okTreeW us g hg
  have c1 := fun D st => callA_trees (cfg := cfg4) (d := D) (s := st) (f := 13) (vs := [.str m, .str s, .int .i64 (us.length : Int)]) rfl (ev4 (n := n) (d := d+2) rfl rfl h1)
  have c3 := fun D st => callA_trees (cfg := cfg4) (d := D) (s := st) (f := 37) (vs := [.str s, .sl (cellsK us) us.length g]) (by simp only [List.all_cons, hT]; rfl) ha
  have b1 : ((us.length : Int) == 1) = false := beq_eq_false_iff_ne.mpr (by omega)
  have he : m ≠ erlW ∨ ((s == ([101, 114, 114, 111, 114] : List UInt8)) = false ∧ (s == ([101, 120, 105, 116] : List UInt8)) = false ∧ (s == ([116, 104, 114, 111, 119] : List UInt8)) = false) := by
    rcases hc with h | h
    · exact .inl h
    · simp only [isThr, w_error, w_exit, w_throw, Bool.or_eq_false_iff] at h
      exact .inr h
  have c4 := fun D st => callA_trees (cfg := cfg4) (d := D) (s := st) (f := 30) (vs := [.str sBad]) rfl (ev4 (n := n) (d := d+2) rfl rfl (ratom_eq 9223372036854775808 6189 sBad))
  rw [evalFn_goP _ Tryz.func10 (by unfold Tryz.f10; rfl) (by unfold Tryz.f10; decide) (Nat.le_of_ble_eq_true (by unfold Tryz.f10; rfl)) (by kernel_rfl)]
  simp only [encT] at c3 c4
  simp only [sBad] at c4
  have b2 := bdQ_g sErrW (atomT sBad)
  have hst := fun st p k => st_QG st p k sErrW (atomT sBad)
  have hst2 := fun t k p st => stE_G t k p st sErrW (atomT sBad)
  simp only [sErrW, sBad] at b2 hst hst2
  rcases he with he | ⟨e1, e2, e3⟩
  · have w5 : (m == ([101, 114, 108, 97, 110, 103] : List UInt8)) = false := beq_eq_false_iff_ne.mpr he
    simp only [simP, simB, keep4, Nat.reduceBEq, own4, String.reduceAppend, String.reduceBEq, Bool.or_false, Bool.or_true, Bool.or_self, ↓reduceIte, Nat.reduceEqDiff, Nat.reduceAdd, simA, simL, simN, Nat.zero_add, zex, List.toList_toArray, len9, ix9, zey, zez, zfa, zfb, zfc, zeroT, zeroQ, lenTk, i_eqlV, c1, b1, s_eqlS, w5, c3, c4, unA_not', Bool.not_true, Bool.not_false, zdu, ldT_u, bdT_00, b2, st_Tt, stT_6, hst, hst2]
    exact finish_Q3 _ _ _ _ _ T0 _ _ _ _ _ _ _ _ (errG sErrW (atomT sBad)) rfl (by simp only [zfr, ↓reduceIte, Nat.reduceEqDiff]; try rfl) (by simp only [zfr, ↓reduceIte, Nat.reduceEqDiff]; try rfl) (by simp only [zfr, ↓reduceIte, Nat.reduceEqDiff]; try rfl) (by simp only [zfr, ↓reduceIte, Nat.reduceEqDiff]; try rfl) (by simp only [zfr, ↓reduceIte, Nat.reduceEqDiff]; try rfl) rfl
  · by_cases hm : m = erlW
    · have w5 : (m == ([101, 114, 108, 97, 110, 103] : List UInt8)) = true := by rw [hm]; decide
      simp only [simP, simB, keep4, Nat.reduceBEq, own4, String.reduceAppend, String.reduceBEq, Bool.or_false, Bool.or_true, Bool.or_self, ↓reduceIte, Nat.reduceEqDiff, Nat.reduceAdd, simA, simL, simN, Nat.zero_add, zex, List.toList_toArray, len9, ix9, zey, zez, zfa, zfb, zfc, zeroT, zeroQ, lenTk, i_eqlV, c1, b1, s_eqlS, w5, e1, e2, e3, c3, c4, unA_not', Bool.not_true, Bool.not_false, zdu, ldT_u, bdT_00, b2, st_Tt, stT_6, hst, hst2]
      exact finish_Q3 _ _ _ _ _ T0 _ _ _ _ _ _ _ _ (errG sErrW (atomT sBad)) rfl (by simp only [zfr, ↓reduceIte, Nat.reduceEqDiff]; try rfl) (by simp only [zfr, ↓reduceIte, Nat.reduceEqDiff]; try rfl) (by simp only [zfr, ↓reduceIte, Nat.reduceEqDiff]; try rfl) (by simp only [zfr, ↓reduceIte, Nat.reduceEqDiff]; try rfl) (by simp only [zfr, ↓reduceIte, Nat.reduceEqDiff]; try rfl) rfl
    · have w5 : (m == ([101, 114, 108, 97, 110, 103] : List UInt8)) = false := beq_eq_false_iff_ne.mpr hm
      simp only [simP, simB, keep4, Nat.reduceBEq, own4, String.reduceAppend, String.reduceBEq, Bool.or_false, Bool.or_true, Bool.or_self, ↓reduceIte, Nat.reduceEqDiff, Nat.reduceAdd, simA, simL, simN, Nat.zero_add, zex, List.toList_toArray, len9, ix9, zey, zez, zfa, zfb, zfc, zeroT, zeroQ, lenTk, i_eqlV, c1, b1, s_eqlS, w5, c3, c4, unA_not', Bool.not_true, Bool.not_false, zdu, ldT_u, bdT_00, b2, st_Tt, stT_6, hst, hst2]
      exact finish_Q3 _ _ _ _ _ T0 _ _ _ _ _ _ _ _ (errG sErrW (atomT sBad)) rfl (by simp only [zfr, ↓reduceIte, Nat.reduceEqDiff]; try rfl) (by simp only [zfr, ↓reduceIte, Nat.reduceEqDiff]; try rfl) (by simp only [zfr, ↓reduceIte, Nat.reduceEqDiff]; try rfl) (by simp only [zfr, ↓reduceIte, Nat.reduceEqDiff]; try rfl) (by simp only [zfr, ↓reduceIte, Nat.reduceEqDiff]; try rfl) rfl
set_option maxHeartbeats 8000000 in
theorem rcall_more_ok (u : T) (hn : nodT u ≤ 2000) (hh : hasW m s us.length = true) (hc : m ≠ erlW ∨ isThr s = false) (hl : us.length ≠ 1) (ha : evalFn Tryz.prog cfg4 n (d+3) 37 [.tree (.str s), .tree (.sl (cellsK us) us.length g)] = some (.tree (.tup [encT u, .bool true]), [[], []])) : evalFn Tryz.prog cfg4 n (d+4) 10 [.tree (.str m), .tree (.str s), .tree (.sl (cellsK us) us.length g)] = some (.tree (.tup [encT u, .agg zErr, .bool true]), [[], [], []]) := by
  have h1 := rhas_eq 9223372036854775808 6189 (by decide) (by decide) m s (us.length : Int)
  rw [hh] at h1
  have hT := okTreeW us g hg
  have c1 := fun D st => callA_trees (cfg := cfg4) (d := D) (s := st) (f := 13) (vs := [.str m, .str s, .int .i64 (us.length : Int)]) rfl (ev4 (n := n) (d := d+2) rfl rfl h1)
  have c3 := fun D st => callA_trees (cfg := cfg4) (d := D) (s := st) (f := 37) (vs := [.str s, .sl (cellsK us) us.length g]) (by simp only [List.all_cons, hT]; rfl) ha
  have b1 : ((us.length : Int) == 1) = false := beq_eq_false_iff_ne.mpr (by omega)
  have he : m ≠ erlW ∨ ((s == ([101, 114, 114, 111, 114] : List UInt8)) = false ∧ (s == ([101, 120, 105, 116] : List UInt8)) = false ∧ (s == ([116, 104, 114, 111, 119] : List UInt8)) = false) := by
    rcases hc with h | h
    · exact .inl h
    · simp only [isThr, w_error, w_exit, w_throw, Bool.or_eq_false_iff] at h
      exact .inr h
  have c4 := fun D st => callA_trees (cfg := cfg4) (d := D) (s := st) (f := 38) (vs := [encT u, .int .i64 ((0 : Nat) : Int)]) rfl (ev4 (n := n) (d := d+2) rfl rfl (evalFn_mono (show 1000000 ≤ 9223372036854775808 by decide) 6190 6190 (Nat.le_refl _) _ _ _ (rMany_eq 1000000 (Nat.le_refl _) 6190 u 0 (by have := ht_nod u; omega) (by omega) (by omega))))
  rw [Nat.zero_add] at c4
  have c4 : ∀ D st, callA cfg4 (evalFn Tryz.prog cfg4 n (d+3)) D st 38 [encT u, .int .i64 0] = some (.int .i64 (nodT u : Int), st) := c4
  rw [evalFn_goP _ Tryz.func10 (by unfold Tryz.f10; rfl) (by unfold Tryz.f10; decide) (Nat.le_of_ble_eq_true (by unfold Tryz.f10; rfl)) (by kernel_rfl)]
  have q1 : ¬ ((nodT u : Int) > 2000) := by omega
  simp only [encT] at c3 c4
  rcases he with he | ⟨e1, e2, e3⟩
  · have w5 : (m == ([101, 114, 108, 97, 110, 103] : List UInt8)) = false := beq_eq_false_iff_ne.mpr he
    simp only [simP, simB, keep4, Nat.reduceBEq, own4, String.reduceAppend, String.reduceBEq, Bool.or_false, Bool.or_true, Bool.or_self, ↓reduceIte, Nat.reduceEqDiff, Nat.reduceAdd, simA, simL, simN, Nat.zero_add, zex, List.toList_toArray, len9, ix9, zey, zez, zfa, zfb, zfc, zeroT, zeroQ, lenTk, i_eqlV, c1, b1, s_eqlS, w5, c3, c4, unA_not', Bool.not_true, Bool.not_false, zdu, q1, ldT_u, bdQ_, st_Tt, stT_6, st_Qz, stE_z]
    exact finish_Q3 _ _ _ _ _ u _ _ _ _ _ _ _ _ zErr rfl (by simp only [zfr, ↓reduceIte, Nat.reduceEqDiff]; try rfl) (by simp only [zfr, ↓reduceIte, Nat.reduceEqDiff]; try rfl) (by simp only [zfr, ↓reduceIte, Nat.reduceEqDiff]; try rfl) (by simp only [zfr, ↓reduceIte, Nat.reduceEqDiff]; try rfl) (by simp only [zfr, ↓reduceIte, Nat.reduceEqDiff]; try rfl) rfl
  · by_cases hm : m = erlW
    · have w5 : (m == ([101, 114, 108, 97, 110, 103] : List UInt8)) = true := by rw [hm]; decide
      simp only [simP, simB, keep4, Nat.reduceBEq, own4, String.reduceAppend, String.reduceBEq, Bool.or_false, Bool.or_true, Bool.or_self, ↓reduceIte, Nat.reduceEqDiff, Nat.reduceAdd, simA, simL, simN, Nat.zero_add, zex, List.toList_toArray, len9, ix9, zey, zez, zfa, zfb, zfc, zeroT, zeroQ, lenTk, i_eqlV, c1, b1, s_eqlS, w5, e1, e2, e3, c3, c4, unA_not', Bool.not_true, Bool.not_false, zdu, q1, ldT_u, bdQ_, st_Tt, stT_6, st_Qz, stE_z]
      exact finish_Q3 _ _ _ _ _ u _ _ _ _ _ _ _ _ zErr rfl (by simp only [zfr, ↓reduceIte, Nat.reduceEqDiff]; try rfl) (by simp only [zfr, ↓reduceIte, Nat.reduceEqDiff]; try rfl) (by simp only [zfr, ↓reduceIte, Nat.reduceEqDiff]; try rfl) (by simp only [zfr, ↓reduceIte, Nat.reduceEqDiff]; try rfl) (by simp only [zfr, ↓reduceIte, Nat.reduceEqDiff]; try rfl) rfl
    · have w5 : (m == ([101, 114, 108, 97, 110, 103] : List UInt8)) = false := beq_eq_false_iff_ne.mpr hm
      simp only [simP, simB, keep4, Nat.reduceBEq, own4, String.reduceAppend, String.reduceBEq, Bool.or_false, Bool.or_true, Bool.or_self, ↓reduceIte, Nat.reduceEqDiff, Nat.reduceAdd, simA, simL, simN, Nat.zero_add, zex, List.toList_toArray, len9, ix9, zey, zez, zfa, zfb, zfc, zeroT, zeroQ, lenTk, i_eqlV, c1, b1, s_eqlS, w5, c3, c4, unA_not', Bool.not_true, Bool.not_false, zdu, q1, ldT_u, bdQ_, st_Tt, stT_6, st_Qz, stE_z]
      exact finish_Q3 _ _ _ _ _ u _ _ _ _ _ _ _ _ zErr rfl (by simp only [zfr, ↓reduceIte, Nat.reduceEqDiff]; try rfl) (by simp only [zfr, ↓reduceIte, Nat.reduceEqDiff]; try rfl) (by simp only [zfr, ↓reduceIte, Nat.reduceEqDiff]; try rfl) (by simp only [zfr, ↓reduceIte, Nat.reduceEqDiff]; try rfl) (by simp only [zfr, ↓reduceIte, Nat.reduceEqDiff]; try rfl) rfl
end
end Go.Ab

/- What bif.Call and relictref19.Call answer of terms that are few, name by name (CFG4). Conditions: terms that are few. -/
namespace Go.Ab
open Go.Proofs
set_option maxRecDepth 100000
set_option linter.unusedSimpArgs false

mutual
theorem big_copy (m : Nat) : ∀ t : T, bigT m t → bigT m (copyT t)
  | .mk k b lg l s n kg ks, h => by
    simp only [bigT] at h
    simp only [copyT, bigT]
    exact ⟨h.1, h.2.1, bigK_copy m ks h.2.2⟩
theorem bigK_copy (m : Nat) : ∀ ks : List T, bigK m ks → bigK m (copyK ks)
  | [], _ => by simp only [copyK, bigK]
  | t :: r, h => by
    simp only [bigK] at h
    simp only [copyK, bigK]
    exact ⟨big_copy m t h.1, bigK_copy m r h.2⟩
end
structure FewY (t : T) : Prop where
  few : fewT 100000 t
  nod : nodT t ≤ 100
  big : bigT 9223372036854775808 t
  lim : Limbs (limT t)
  str : (strT t).length ≤ 500
  lml : (limT t).length ≤ 40
theorem FewY.copy {t : T} (h : FewY t) : FewY (copyT t) :=
  ⟨few_copy _ _ h.few, by rw [nod_copy]; exact h.nod, big_copy _ _ h.big, by rw [lim_copy]; exact h.lim, by rw [str_copy]; exact h.str, by rw [lim_copy]; exact h.lml⟩
theorem fewY_of (t : T) (hb : bigT 9223372036854775808 t) (h : lgT t 100 ≥ 0) : FewY t := by
  have h1 := fewX_of t hb h
  have h2 := lgT_ok t 100 h
  obtain ⟨k, b, lg, l, s, m, kg, ks⟩ := t
  have := h2.1
  simp only [leanT] at this
  exact ⟨h1.few, h1.nod, hb, h1.lim, this.2.1, this.1⟩
theorem FewY.kids {t : T} (h : FewY t) : (kidsT t).length ≤ 100 ∧ nodK (kidsT t) + 1 = nodT t ∧ fewK 100000 (kidsT t) := by
  have h1 := h.few
  have h2 := h.nod
  obtain ⟨k, b, lg, l, s, m, kg, ks⟩ := t
  simp only [fewT] at h1
  simp only [nodT] at h2
  have h3 := nodK_len ks
  refine ⟨by show ks.length ≤ 100; omega, by simp only [nodT]; show nodK ks + 1 = _; omega, h1.2.2⟩
theorem B_ten : ∀ k, 0 < k → B ^ (5 * k) < 10 ^ (49 * k)
  | 0, h => absurd h (by decide)
  | 1, _ => by decide
  | k + 2, _ => by
    have h := B_ten (k + 1) (Nat.succ_pos _)
    have h1 : B ^ (5 * (k + 2)) = B ^ (5 * (k + 1)) * B ^ 5 := by rw [← Nat.pow_add]; rfl
    have h2 : 10 ^ (49 * (k + 2)) = 10 ^ (49 * (k + 1)) * 10 ^ 49 := by rw [← Nat.pow_add]; rfl
    rw [h1, h2]
    exact Nat.mul_lt_mul_of_lt_of_lt h (by decide)
theorem FewY.text {t : T} (h : FewY t) : (textZ (zOfT t)).length ≤ 500 := by
  have h1 : (zOfT t).natAbs < B ^ (5 * 8) := by
    have hv := val_lt (limT t) h.lim
    have hp : B ^ (limT t).length ≤ B ^ (5 * 8) := Nat.pow_le_pow_right (by decide) h.lml
    unfold zOfT numZ
    split
    · split
      · rw [Int.natAbs_neg, Int.natAbs_natCast]; omega
      · rw [Int.natAbs_natCast]; omega
    · show 0 < _
      exact Nat.pow_pos (by decide)
  have := dec_len (49 * 8) _ (Nat.lt_trans h1 (B_ten 8 (by decide)))
  unfold textZ
  (repeat' split)
  · decide
  · rw [List.length_cons]; omega
  · omega
theorem kidT_nod (t : T) : ∀ (ks : List T) (i : Nat), nodT (ks.getD i T0) ≤ nodK ks + 1
  | [], i => by show nodT T0 ≤ _; simp only [T0, nodT, nodK]; omega
  | a :: r, 0 => by show nodT a ≤ _; simp only [nodK]; omega
  | a :: r, i + 1 => by
    have := kidT_nod t r i
    simp only [nodK, List.getD_cons_succ]
    omega
theorem zOf_copy (t : T) : zOfT (copyT t) = zOfT t := by obtain ⟨k, b, lg, l, s, m, kg, ks⟩ := t; rfl
theorem kind_copy (t : T) : kindT (copyT t) = kindT t := by obtain ⟨k, b, lg, l, s, m, kg, ks⟩ := t; rfl
def okY (u : T) : Prop := okX u ∧ nodT u ≤ 2000
theorem okY_of (u : T) (h : fewT 100000 u) (hn : nodT u ≤ 2000) : okY u := ⟨okX_nod u h hn, hn⟩
theorem okY_0 : okY T0 := ⟨okX_0, by decide⟩
theorem one_nod (op : Int) (t : T) (h : FewY t) : nodT (oneT smallT op t).1 ≤ 2000 := by
  have hk := h.kids
  have hn := h.nod
  have h0 : nodT T0 ≤ 2000 := by decide
  unfold oneT
  split
  · have := kidT_nod t (kidsT t) (op.toNat - 1)
    show nodT ((kidsT t).getD (op.toNat - 1) T0) ≤ 2000
    omega
  · split
    · show 1 ≤ 2000; omega
    · split
      · show 1 ≤ 2000; omega
      · split
        · split
          · show 1 ≤ 2000; omega
          · exact h0
        · exact h0
theorem one_okY (op : Int) (t : T) (h : FewY t) : okY (oneT smallT op t).1 := ⟨one_ok op t h.few (by have := h.nod; omega) (by have := h.str; omega), one_nod op t h⟩
theorem two_okY (op : Int) (a b : T) (h : FewY b) : okY (twoT op a b).1 := by
  have hk := h.kids
  have hn := h.nod
  refine ⟨two_ok op a b h.few (by omega), ?_⟩
  unfold twoT
  split
  · have := kidT_nod b (kidsT b) ((zOfT a).toNat - 1)
    show nodT ((kidsT b).getD ((zOfT a).toNat - 1) T0) ≤ 2000
    omega
  · decide
theorem few_list {m : Nat} (hm : 3 ≤ m) : ∀ (us : List T) (t : T), fewK m us → fewT m t → fewT m (listT us t)
  | [], t, _, h => h
  | a :: r, t, h, k => by
    simp only [fewK] at h
    simp only [listT, consT, fewT, fewK, List.length_nil, List.length_cons, and_true]
    exact ⟨by omega, by omega, h.1, few_list hm r t h.2 k⟩
theorem few_nil : fewT 100000 nilT' := (okX_leaf 3 false .n [] [] 0 (by simp)).1
theorem bareK_txt (s : List UInt8) : bareK (txtT s) = bareK (itxT s) := by
  rw [bareK_map, bareK_map, txtT, itxT, List.map_map, List.map_map]; rfl
theorem okY_list (us : List T) (t : T) (h1 : fewK 100000 us) (h2 : fewT 100000 t) (h3 : us.length + nodK us + nodT t ≤ 2000) : okY (listT us t) := okY_of _ (few_list (by omega) us t h1 h2) (by rw [nod_list]; exact h3)
theorem fewK_rev {m : Nat} {us : List T} (h : fewK m us) : fewK m us.reverse := fewK_of fun t ht => fewK_mem h t (List.mem_reverse.1 ht)
theorem nodK_rev : ∀ us : List T, nodK us.reverse = nodK us
  | [] => rfl
  | a :: r => by
    have := nodK_rev r
    rw [List.reverse_cons, nodK_app, this]
    simp only [nodK]; omega
theorem nodK_set : ∀ (us : List T) (i : Nat) (w : T), nodK (us.set i w) ≤ nodK us + nodT w
  | [], _, _ => by simp [nodK]
  | a :: r, 0, w => by simp only [List.set_cons_zero, nodK]; omega
  | a :: r, i + 1, w => by
    have := nodK_set r i w
    simp only [List.set_cons_succ, nodK]; omega
theorem fewK_set {m : Nat} : ∀ (us : List T) (i : Nat) (w : T), fewK m us → fewT m w → fewK m (us.set i w)
  | [], _, _, _, _ => by simp [fewK]
  | a :: r, 0, w, h, k => by simp only [fewK] at h; simp only [List.set_cons_zero, fewK]; exact ⟨k, h.2⟩
  | a :: r, i + 1, w, h, k => by
    simp only [fewK] at h
    simp only [List.set_cons_succ, fewK]; exact ⟨h.1, fewK_set r i w h.2 k⟩
theorem bare_tup (kg kg' : Gk) {us us' : List T} (h : bareK us = bareK us') : bareT (tupT kg us) = bareT (tupT kg' us') := by simp only [tupT, bareT, h]
structure Ans1 (name : List UInt8) (t : T) (x y : T) (o : Bool) : Prop where
  p : evalFn Tryz.prog cfg0 9223372036854775808 6190 62 [.tree (.str name), .tree (encT (copyT t))] = some (.tree (.tup [encT x, .bool o]), [[], []])
  q : evalFn Tryz.prog cfg0 9223372036854775808 6190 36 [.tree (.str name), .tree (encT t)] = some (.tree (.tup [encT y, .bool o]), [[], []])
  ok : okY x
  same : bareT x = bareT y
theorem nod_bare2 {x y : T} (h : bareT x = bareT y) (hx : nodT x ≤ 2000) : nodT y ≤ 2000 := by rw [← nod_eqB h]; exact hx
theorem ans1_idx (name : List UInt8) (k : Nat) (hk : k ≤ 4) (hn : isRev [.tree (.str name), .tree (.bool true)] = false) (hx : evalFn Tryz.prog cfg0 100000 20 61 [.tree (.sl five 5 .tight), .tree (.str name)] = some (.tree (.int .i64 (k : Int)), [[], []]))
    (hnm : ∀ i, i < k → (nm5 i == name) = false) (hk1 : (nm5 k == name) = true) (t : T) (h : FewY t) : ∃ x y o, Ans1 name t x y o := by
  have hs := h.str
  have hkl := h.kids.1
  have hnd := h.nod
  have hp := bone_idx 9223372036854775808 6189 (by decide) (by decide) name k hk hn hx (copyT t) (by rw [nod_copy]; omega) (by rw [kids_copy, copyK_len]; omega) (by rw [str_copy]; omega)
  have hq := rones_idx 9223372036854775808 6183 (by decide) name k hk hnm hk1 t (by omega) (by omega) (by omega)
  obtain ⟨e1, e2⟩ := bare_one ((k + 1 : Nat) : Int) (copyT t) t (bare_copy t)
  refine ⟨_, _, _, hp, ?_, one_okY _ _ h.copy, e1⟩
  rw [e2]; exact hq
theorem ans1_hd (t : T) (h : FewY t) : ∃ x y o, Ans1 w_hd t x y o := ans1_idx w_hd 0 (by decide) (by decide) bidx_hd (fun i hi => by omega) (by decide) t h
theorem ans1_tl (t : T) (h : FewY t) : ∃ x y o, Ans1 w_tl t x y o := ans1_idx w_tl 1 (by decide) (by decide) bidx_tl (by decide) (by decide) t h
theorem ans1_tuple_size (t : T) (h : FewY t) : ∃ x y o, Ans1 w_tuple_size t x y o := ans1_idx w_tuple_size 2 (by decide) (by decide) bidx_tuple_size (by decide) (by decide) t h
theorem ans1_byte_size (t : T) (h : FewY t) : ∃ x y o, Ans1 w_byte_size t x y o := ans1_idx w_byte_size 3 (by decide) (by decide) bidx_byte_size (by decide) (by decide) t h
theorem ans1_length (t : T) (h : FewY t) : ∃ x y o, Ans1 w_length t x y o := ans1_idx w_length 4 (by decide) (by decide) bidx_length (by decide) (by decide) t h
theorem ans1_list_to_tuple (t : T) (h : FewY t) : ∃ x y o, Ans1 w_list_to_tuple t x y o := by
  have hnd := h.nod
  have hp := bone_list_to_tuple 9223372036854775808 6189 (by decide) (by decide) (copyT t)
  have hq := rones_list_to_tuple 9223372036854775808 6183 (by decide) t (by omega)
  rcases items_eqB (bare_copy t) with ⟨h1, h2⟩ | ⟨us, us', h1, h2, hb⟩
  · rw [l2t_none _ _ h1] at hp
    rw [l2t_none _ _ h2] at hq
    exact ⟨_, _, _, hp, hq, okY_0, rfl⟩
  · have hl := len_eqB hb
    by_cases h40 : us.length ≤ 40
    · rw [l2t_yes _ _ us h1 h40] at hp
      rw [l2t_yes _ _ us' h2 (by omega)] at hq
      have hnk := items_nod (copyT t) us h1
      have hfk := items_few 100000 (copyT t) us h1 (few_copy _ _ h.few)
      rw [nod_copy] at hnk
      refine ⟨_, _, _, hp, hq, okY_of _ ?_ ?_, bare_tup (kgOf us) .l hb⟩
      · simp only [tupJ, fewT, List.length_nil]; exact ⟨by omega, by omega, hfk⟩
      · simp only [tupJ, nodT]; omega
    · rw [l2t_no _ _ us h1 h40] at hp
      rw [l2t_no _ _ us' h2 (by omega)] at hq
      exact ⟨_, _, _, hp, hq, okY_0, rfl⟩
theorem ans1_tuple_to_list (t : T) (h : FewY t) : ∃ x y o, Ans1 w_tuple_to_list t x y o := by
  have hnd := h.nod
  have hkl := h.kids
  have hp := bone_tuple_to_list 9223372036854775808 6189 (by decide) (by decide) (copyT t) (by rw [kids_copy, copyK_len]; omega)
  have hq := rones_tuple_to_list 9223372036854775808 6183 (by decide) t (by omega) (by omega) (by omega)
  by_cases hk : kindT t = 5
  · rw [t2l_yes _ (by rw [kind_copy]; exact hk)] at hp
    rw [t2l_yes _ hk] at hq
    refine ⟨_, _, _, hp, hq, okY_list _ _ ?_ few_nil ?_, list_eqB (by rw [kids_copy, bareK_copy]) rfl⟩
    · rw [kids_copy]; exact fewK_copy _ _ hkl.2.2
    · rw [kids_copy, copyK_len, nodK_copy]
      have e : nodT nilT' = 1 := rfl
      omega
  · rw [t2l_no _ (by rw [kind_copy]; exact hk)] at hp
    rw [t2l_no _ hk] at hq
    exact ⟨_, _, _, hp, hq, okY_0, rfl⟩
theorem okY_txt (s : List UInt8) (hs : s.length ≤ 500) : okY (listT (txtT s) nilT') := by
  refine okY_of _ (few_list (by omega) _ _ (few_txt (by omega) s) few_nil) ?_
  rw [nod_txt]; omega
theorem ans1_integer_to_list (t : T) (h : FewY t) : ∃ x y o, Ans1 w_integer_to_list t x y o := by
  have hnd := h.nod
  have ht := h.text
  have hp := bone_integer_to_list 9223372036854775808 6189 (by decide) (by decide) (copyT t) (by rw [lim_copy]; exact h.lim) (by rw [zOf_copy]; omega)
  have hq := rones_integer_to_list 9223372036854775808 6183 (by decide) t (by omega) h.lim (by omega)
  by_cases hk : kindT t = 1
  · rw [itl_yes _ _ (by rw [kind_copy]; exact hk), zOf_copy] at hp
    rw [itl_yes _ _ hk] at hq
    exact ⟨_, _, _, hp, hq, okY_txt _ ht, list_eqB (bareK_txt _) rfl⟩
  · rw [itl_no _ _ (by rw [kind_copy]; exact hk)] at hp
    rw [itl_no _ _ hk] at hq
    exact ⟨_, _, _, hp, hq, okY_0, rfl⟩
theorem ans1_atom_to_list (t : T) (h : FewY t) : ∃ x y o, Ans1 w_atom_to_list t x y o := by
  have hnd := h.nod
  have ht := h.str
  have hp := bone_atom_to_list 9223372036854775808 6189 (by decide) (by decide) (copyT t) (by rw [str_copy]; omega)
  have hq := rones_atom_to_list 9223372036854775808 6183 (by decide) t (by omega) (by omega)
  by_cases hk : kindT t = 2
  · rw [atl_yes _ _ (by rw [kind_copy]; exact hk), str_copy] at hp
    rw [atl_yes _ _ hk] at hq
    exact ⟨_, _, _, hp, hq, okY_txt _ ht, list_eqB (bareK_txt _) rfl⟩
  · rw [atl_no _ _ (by rw [kind_copy]; exact hk)] at hp
    rw [atl_no _ _ hk] at hq
    exact ⟨_, _, _, hp, hq, okY_0, rfl⟩
theorem ans1_reverse (t : T) (h : FewY t) : ∃ x y o, Ans1 w_reverse t x y o := by
  have hnd := h.nod
  have hp := bone_reverse 9223372036854775808 6189 (copyT t) (by rw [nod_copy]; omega)
  have hq := rones_reverse 9223372036854775808 6183 (by decide) t (by omega)
  rcases items_eqB (bare_copy t) with ⟨h1, h2⟩ | ⟨us, us', h1, h2, hb⟩
  · rw [rev_no _ h1] at hp
    rw [rev_no _ h2] at hq
    exact ⟨_, _, _, hp, hq, okY_0, rfl⟩
  · have hnk := items_nod (copyT t) us h1
    have hfk := items_few 100000 (copyT t) us h1 (few_copy _ _ h.few)
    rw [nod_copy] at hnk
    rw [rev_yes _ us h1] at hp
    rw [rev_yes _ us' h2] at hq
    refine ⟨_, _, _, hp, hq, okY_list _ _ (fewK_rev hfk) few_nil ?_, list_eqB (rev_eqB hb) rfl⟩
    rw [List.length_reverse, nodK_rev]
    have e : nodT nilT' = 1 := rfl
    omega
end Go.Ab

/- What bif.answer and relictref19.more answer of two and three terms that are few (CFG4). Conditions: terms that are few. -/
namespace Go.Ab
open Go.Proofs
set_option maxRecDepth 100000
set_option linter.unusedSimpArgs false

set_option maxHeartbeats 4000000 in
theorem banswer1W (n d : Nat) (name : List UInt8) (t u : T) (v : Bool) (g : Grip) (h : evalFn Tryz.prog cfg0 9223372036854775808 6190 62 [.tree (.str name), .tree (encT t)] = some (.tree (.tup [encT u, .bool v]), [[], []])) :
    evalFn Tryz.prog cfg4 n (d+2) 34 [.tree (.str name), .tree (.sl (cellsK [t]) [t].length g)] = some (.tree (.tup [encT u, .bool v]), [[], []]) := by
  rw [evalFn_go _ Tryz.func34 (by unfold Tryz.f34; rfl) (by unfold Tryz.f34; decide) (Nat.le_of_ble_eq_true (by unfold Tryz.f34; rfl)) (by kernel_rfl)]
  have c := fun D st => callA_trees (cfg := cfg4) (d := D) (s := st) (f := 62) (vs := [.str name, encT t]) rfl (ev4 (n := n) (d := d) rfl rfl h)
  simp only [encT] at c
  have q1 : (([t].length : Int) == 1) = true := rfl
  have ia : ∀ st : St, indexAddrA Tryz.prog 22 st (.sl (cellsK [t]) [t].length g) (.int .i64 0) = some (.rptr (cellsK [t])) := fun st => ia_K st [t] g 0 (Nat.zero_lt_succ _)
  have ld := fun st => ld_KW st t []
  simp only [simB, keep4, Nat.reduceBEq, own4, String.reduceAppend, String.reduceBEq, Bool.or_false, Bool.or_true, Bool.or_self, ↓reduceIte, Nat.reduceEqDiff, Nat.reduceAdd, simA, simL, simN, Nat.zero_add, zeroT, lenTk, i_eqlV, q1, ia, ld, c, zdu, st_Tt, stT_6]
  exact finish_T2 _ _ _ _ _ u _ _ _ _ _ (by simp only [zfr, ↓reduceIte, Nat.reduceEqDiff]; try rfl) (by simp only [zfr, ↓reduceIte, Nat.reduceEqDiff]; try rfl) (by simp only [zfr, ↓reduceIte, Nat.reduceEqDiff]; try rfl) rfl
set_option maxHeartbeats 4000000 in
theorem banswer2W (n d : Nat) (name : List UInt8) (a b u : T) (v : Bool) (g : Grip) (h : evalFn Tryz.prog cfg0 9223372036854775808 6190 63 [.tree (.str name), .tree (encT a), .tree (encT b)] = some (.tree (.tup [encT u, .bool v]), [[], [], []])) :
    evalFn Tryz.prog cfg4 n (d+2) 34 [.tree (.str name), .tree (.sl (cellsK [a, b]) [a, b].length g)] = some (.tree (.tup [encT u, .bool v]), [[], []]) := by
  rw [evalFn_go _ Tryz.func34 (by unfold Tryz.f34; rfl) (by unfold Tryz.f34; decide) (Nat.le_of_ble_eq_true (by unfold Tryz.f34; rfl)) (by kernel_rfl)]
  have c := callQ_trees (f := 63) (vs := [.str name, encT a, encT b]) rfl (ev4 (n := n) (d := d) rfl rfl h)
  have c' := fun D st => callA_trees (cfg := cfg4) (d := D) (s := st) (f := 63) (vs := [.str name, encT a, encT b]) rfl (ev4 (n := n) (d := d) rfl rfl h)
  simp only [encT] at c c'
  have q1 : (([a, b].length : Int) == 1) = false := rfl
  have q2 : (([a, b].length : Int) == 2) = true := rfl
  have ia : ∀ st : St, indexAddrA Tryz.prog 22 st (.sl (cellsK [a, b]) [a, b].length g) (.int .i64 0) = some (.rptr (cellsK [a, b])) := fun st => ia_K st [a, b] g 0 (Nat.zero_lt_succ _)
  have ib : ∀ st : St, indexAddrA Tryz.prog 22 st (.sl (cellsK [a, b]) [a, b].length g) (.int .i64 1) = some (.rptr (cellsK [b])) := fun st => ia_K st [a, b] g 1 (Nat.lt_succ_self _)
  have ld := fun st => ld_KW st a [b]
  have ld2 := fun st => ld_KW st b []
  simp only [simB, keep4, Nat.reduceBEq, own4, String.reduceAppend, String.reduceBEq, Bool.or_false, Bool.or_true, Bool.or_self, ↓reduceIte, Nat.reduceEqDiff, Nat.reduceAdd, simA, simL, simN, Nat.zero_add, zeroT, lenTk, i_eqlV, q1, q2, ia, ib, ld, ld2, c, c', zdu, st_Tt, stT_6]
  exact finish_T2 _ _ _ _ _ u _ _ _ _ _ (by simp only [zfr, ↓reduceIte, Nat.reduceEqDiff]; try rfl) (by simp only [zfr, ↓reduceIte, Nat.reduceEqDiff]; try rfl) (by simp only [zfr, ↓reduceIte, Nat.reduceEqDiff]; try rfl) rfl
structure AnsN (name : List UInt8) (us : List T) (x y : T) (o : Bool) : Prop where
  p : ∀ n d, evalFn Tryz.prog cfg4 n (d+2) 34 [.tree (.str name), .tree (.sl (cellsK (copyK us)) (copyK us).length .loose)] = some (.tree (.tup [encT x, .bool o]), [[], []])
  q : ∀ n d, 2000 < n → evalFn Tryz.prog cfg4 n (d+2) 37 [.tree (.str name), .tree (.sl (cellsK us) us.length .loose)] = some (.tree (.tup [encT y, .bool o]), [[], []])
  ok : okY x ∨ o = false
  same : bareT x = bareT y ∨ o = false
theorem two2 (name : List UInt8) (a b x y : T) (o : Bool) (hp : evalFn Tryz.prog cfg0 9223372036854775808 6190 63 [.tree (.str name), .tree (encT (copyT a)), .tree (encT (copyT b))] = some (.tree (.tup [encT x, .bool o]), [[], [], []]))
    (hq : ∀ n d, 2000 < n → evalFn Tryz.prog cfg4 n (d+2) 37 [.tree (.str name), .tree (.sl (cellsK [a, b]) [a, b].length .loose)] = some (.tree (.tup [encT y, .bool o]), [[], []])) (hok : okY x ∨ o = false) (hs : bareT x = bareT y ∨ o = false) : AnsN name [a, b] x y o :=
  ⟨fun n d => banswer2W n d name (copyT a) (copyT b) x o .loose hp, hq, hok, hs⟩
section
variable (a b : T) (ya : FewY a) (yb : FewY b)
include ya yb
theorem ans_element : ∃ x y o, AnsN w_element [a, b] x y o := by
  have na := ya.nod
  have nb := yb.nod
  have hp := btwo_element 9223372036854775808 6189 (by decide) (by decide) (copyT a) (copyT b) ya.copy.lim
  obtain ⟨e1, e2⟩ := bare_two 1 (copyT a) (copyT b) a b (bare_copy a) (bare_copy b)
  exact ⟨_, _, _, two2 _ _ _ _ _ _ hp (fun n d _ => by rw [e2]; exact rmore_element n d a b [] .loose rfl (by omega) (by omega) ya.lim) (.inl (two_okY _ _ _ yb.copy)) (.inl e1)⟩
theorem ans_pp : ∃ x y o, AnsN w_pp [a, b] x y o := by
  have na := ya.nod
  have nb := yb.nod
  have hp := btwo_pp 9223372036854775808 6189 (by decide) (by decide) (copyT a) (copyT b) (by rw [nod_copy]; omega)
  have hq := fun n d => rmore_pp n d a b [] .loose rfl (by omega) (by omega)
  rcases items_eqB (bare_copy a) with ⟨h1, h2⟩ | ⟨us, us', h1, h2, hb⟩
  · rw [pp_no _ _ h1] at hp
    simp only [ppR_no a b h2] at hq
    exact ⟨_, _, _, two2 _ _ _ _ _ _ hp (fun n d _ => hq n d) (.inr rfl) (.inr rfl)⟩
  · have hnk := items_nod (copyT a) us h1
    have hfk := items_few 100000 (copyT a) us h1 (few_copy _ _ ya.few)
    rw [nod_copy] at hnk
    rw [pp_yes _ _ us h1] at hp
    simp only [ppR_yes a b us' h2] at hq
    refine ⟨_, _, _, two2 _ _ _ _ _ _ hp (fun n d _ => hq n d) (.inl (okY_list _ _ hfk (few_copy _ _ yb.few) ?_)) (.inl (list_eqB hb (bare_copy b)))⟩
    rw [nod_copy]; omega
theorem okY_copy : okY (copyT a) ∧ okY (copyT b) := by
  have na := ya.copy.nod
  have nb := yb.copy.nod
  exact ⟨okY_of _ ya.copy.few (by omega), okY_of _ yb.copy.few (by omega)⟩
theorem ans_max : ∃ x y o, AnsN w_max [a, b] x y o := by
  have na := ya.nod
  have nb := yb.nod
  have hp := btwo_max 9223372036854775808 6189 (by decide) (by decide) (copyT a) (copyT b) ya.copy.big yb.copy.big (by rw [nod_copy]; omega)
  refine ⟨_, _, _, two2 _ _ _ _ (maxX a b) _ hp (fun n d _ => rmore_max n d a b [] .loose rfl (by omega) (by omega) ya.big yb.big (by omega)) (.inl ?_) (.inl ?_)⟩
  · have := okY_copy a b ya yb
    unfold maxX
    split
    · exact this.1
    · exact this.2
  · unfold maxX
    rw [cmp_eqB (bare_copy a) (bare_copy b)]
    split
    · exact bare_copy a
    · exact bare_copy b
theorem ans_min : ∃ x y o, AnsN w_min [a, b] x y o := by
  have na := ya.nod
  have nb := yb.nod
  have hp := btwo_min 9223372036854775808 6189 (by decide) (by decide) (copyT a) (copyT b) ya.copy.big yb.copy.big (by rw [nod_copy]; omega)
  refine ⟨_, _, _, two2 _ _ _ _ (minX a b) _ hp (fun n d _ => rmore_min n d a b [] .loose rfl (by omega) (by omega) ya.big yb.big (by omega)) (.inl ?_) (.inl ?_)⟩
  · have := okY_copy a b ya yb
    unfold minX
    split
    · exact this.1
    · exact this.2
  · unfold minX
    rw [cmp_eqB (bare_copy a) (bare_copy b)]
    split
    · exact bare_copy a
    · exact bare_copy b
theorem ans_member : ∃ x y o, AnsN w_member [a, b] x y o := by
  have na := ya.nod
  have nb := yb.nod
  have hp := btwo_member 9223372036854775808 6188 (by decide) (by decide) (copyT a) (copyT b) yb.copy.few (by rw [nod_copy]; omega)
  have hq := fun n d hn => rmore_member n d a b [] .loose rfl (by omega) (by omega) yb.few hn
  rcases items_eqB (bare_copy b) with ⟨h1, h2⟩ | ⟨us, us', h1, h2, hb⟩
  · rw [mem_none _ _ h1] at hp
    simp only [mem_none a b h2] at hq
    exact ⟨_, _, _, two2 _ _ _ _ _ _ hp hq (.inr rfl) (.inr rfl)⟩
  · have he := mem_eqB hb (bare_copy a)
    cases hm : memX a us' with
    | true =>
      rw [mem_yes _ _ us h1 (by rw [he]; exact hm)] at hp
      simp only [mem_yes a b us' h2 hm] at hq
      exact ⟨_, _, _, two2 _ _ _ _ _ _ hp hq (.inl (okY_of _ (okX_leaf 2 false .n [] _ 0 (by simp)).1 (by decide))) (.inl rfl)⟩
    | false =>
      rw [mem_not _ _ us h1 (by rw [he]; exact hm)] at hp
      simp only [mem_not a b us' h2 hm] at hq
      exact ⟨_, _, _, two2 _ _ _ _ _ _ hp hq (.inl (okY_of _ (okX_leaf 2 false .n [] _ 0 (by simp)).1 (by decide))) (.inl rfl)⟩
theorem ans_setelement (c : T) (yc : FewY c) : ∃ x y o, AnsN w_setelement [a, b, c] x y o := by
  have na := ya.nod
  have nb := yb.nod
  have nc := yc.nod
  have hk := yb.kids
  have hpl : PlaceP (copyT a) (copyT b) ↔ PlaceP a b := by
    unfold PlaceP
    rw [kind_copy, kind_copy, zOf_copy, kids_copy, copyK_len]
  by_cases hq : PlaceP a b
  · have hne := place_ne a b hq
    have hp := fun n d => banswer3_ok n d w_setelement (copyT a) (copyT b) (copyT c) .loose ya.copy.lim (hpl.2 hq) (by
      obtain ⟨k, b1, lg, l, x, m, kg, ks⟩ := b
      have hne' : copyK ks ≠ [] := by
        intro e
        have := congrArg List.length e
        rw [copyK_len] at this
        exact hne (List.length_eq_zero_iff.1 this)
      refine ⟨k, b1, .l, l, x, m, ?_⟩
      simp only [copyT, kgOf, if_neg hne', kidsT]) (by rw [kids_copy, copyK_len]; omega)
    have hr := fun n d => rmore3_ok n d a b c .loose (by omega) (by omega) ya.lim hq (by omega)
    rw [zOf_copy, kids_copy] at hp
    refine ⟨_, _, _, ⟨fun n d => hp n d, fun n d _ => hr n d, .inl (okY_of _ ?_ ?_), .inl (bare_tup .l .l (set_eqB (bareK_copy _) _ (bare_copy c)))⟩⟩
    · have h1 := fewK_set (m := 100000) (copyK (kidsT b)) ((zOfT a).toNat - 1) (copyT c) (fewK_copy _ _ hk.2.2) yc.copy.few
      simp only [tupT, fewT, List.length_nil, List.length_set, copyK_len]
      exact ⟨by omega, by omega, h1⟩
    · have h1 := nodK_set (copyK (kidsT b)) ((zOfT a).toNat - 1) (copyT c)
      rw [nodK_copy, nod_copy] at h1
      simp only [tupT, nodT]; omega
  · have hp := fun n d => banswer3_bad n d w_setelement (copyT a) (copyT b) (copyT c) .loose ya.copy.lim (fun h => hq (hpl.1 h))
    have hr := fun n d => rmore3_bad n d a b c .loose (by omega) (by omega) ya.lim hq
    exact ⟨_, _, _, ⟨fun n d => hp n d, fun n d _ => hr n d, .inr rfl, .inr rfl⟩⟩
end
end Go.Ab

/- bif.Call and relictref19.Call of terms that are few (CFG4; printed by gen18.py). Conditions: terms that are few; a name that is no longer than a number may tell. -/
namespace Go.Ab
open Go.Proofs
set_option maxRecDepth 100000
set_option linter.unusedSimpArgs false

theorem cont_error : evalFn Tryz.prog cfg0 100000 20 33 [.tree (.sl throws 3 .tight), .tree (.str w_error)] = some (.tree (.bool true), [[], []]) := by kernel_rfl
theorem cont_exit : evalFn Tryz.prog cfg0 100000 20 33 [.tree (.sl throws 3 .tight), .tree (.str w_exit)] = some (.tree (.bool true), [[], []]) := by kernel_rfl
theorem cont_throw : evalFn Tryz.prog cfg0 100000 20 33 [.tree (.sl throws 3 .tight), .tree (.str w_throw)] = some (.tree (.bool true), [[], []]) := by kernel_rfl
theorem cont_hd : evalFn Tryz.prog cfg0 100000 20 33 [.tree (.sl throws 3 .tight), .tree (.str w_hd)] = some (.tree (.bool false), [[], []]) := by kernel_rfl
theorem cont_tl : evalFn Tryz.prog cfg0 100000 20 33 [.tree (.sl throws 3 .tight), .tree (.str w_tl)] = some (.tree (.bool false), [[], []]) := by kernel_rfl
theorem cont_tuple_size : evalFn Tryz.prog cfg0 100000 20 33 [.tree (.sl throws 3 .tight), .tree (.str w_tuple_size)] = some (.tree (.bool false), [[], []]) := by kernel_rfl
theorem cont_byte_size : evalFn Tryz.prog cfg0 100000 20 33 [.tree (.sl throws 3 .tight), .tree (.str w_byte_size)] = some (.tree (.bool false), [[], []]) := by kernel_rfl
theorem cont_length : evalFn Tryz.prog cfg0 100000 20 33 [.tree (.sl throws 3 .tight), .tree (.str w_length)] = some (.tree (.bool false), [[], []]) := by kernel_rfl
theorem cont_list_to_tuple : evalFn Tryz.prog cfg0 100000 20 33 [.tree (.sl throws 3 .tight), .tree (.str w_list_to_tuple)] = some (.tree (.bool false), [[], []]) := by kernel_rfl
theorem cont_tuple_to_list : evalFn Tryz.prog cfg0 100000 20 33 [.tree (.sl throws 3 .tight), .tree (.str w_tuple_to_list)] = some (.tree (.bool false), [[], []]) := by kernel_rfl
theorem cont_integer_to_list : evalFn Tryz.prog cfg0 100000 20 33 [.tree (.sl throws 3 .tight), .tree (.str w_integer_to_list)] = some (.tree (.bool false), [[], []]) := by kernel_rfl
theorem cont_atom_to_list : evalFn Tryz.prog cfg0 100000 20 33 [.tree (.sl throws 3 .tight), .tree (.str w_atom_to_list)] = some (.tree (.bool false), [[], []]) := by kernel_rfl
theorem cont_element : evalFn Tryz.prog cfg0 100000 20 33 [.tree (.sl throws 3 .tight), .tree (.str w_element)] = some (.tree (.bool false), [[], []]) := by kernel_rfl
theorem cont_pp : evalFn Tryz.prog cfg0 100000 20 33 [.tree (.sl throws 3 .tight), .tree (.str w_pp)] = some (.tree (.bool false), [[], []]) := by kernel_rfl
theorem cont_max : evalFn Tryz.prog cfg0 100000 20 33 [.tree (.sl throws 3 .tight), .tree (.str w_max)] = some (.tree (.bool false), [[], []]) := by kernel_rfl
theorem cont_min : evalFn Tryz.prog cfg0 100000 20 33 [.tree (.sl throws 3 .tight), .tree (.str w_min)] = some (.tree (.bool false), [[], []]) := by kernel_rfl
theorem cont_setelement : evalFn Tryz.prog cfg0 100000 20 33 [.tree (.sl throws 3 .tight), .tree (.str w_setelement)] = some (.tree (.bool false), [[], []]) := by kernel_rfl
theorem arE_cases (s : List UInt8) (k : Int) (h : arE s = k) (hk : 0 < k) : (s = w_error ∧ k = 1) ∨ (s = w_exit ∧ k = 1) ∨ (s = w_throw ∧ k = 1) ∨ (s = w_hd ∧ k = 1) ∨ (s = w_tl ∧ k = 1) ∨ (s = w_tuple_size ∧ k = 1) ∨ (s = w_byte_size ∧ k = 1) ∨ (s = w_length ∧ k = 1) ∨ (s = w_list_to_tuple ∧ k = 1) ∨ (s = w_tuple_to_list ∧ k = 1) ∨ (s = w_integer_to_list ∧ k = 1) ∨ (s = w_atom_to_list ∧ k = 1) ∨ (s = w_element ∧ k = 2) ∨ (s = w_pp ∧ k = 2) ∨ (s = w_max ∧ k = 2) ∨ (s = w_min ∧ k = 2) ∨ (s = w_setelement ∧ k = 3) := by
  unfold arE at h
  by_cases e0 : (s == w_error) = true
  · exact Or.inl ⟨eq_of_beq e0, by rw [if_pos e0] at h; exact h.symm⟩
  rw [if_neg e0] at h
  by_cases e1 : (s == w_exit) = true
  · exact Or.inr (Or.inl ⟨eq_of_beq e1, by rw [if_pos e1] at h; exact h.symm⟩)
  rw [if_neg e1] at h
  by_cases e2 : (s == w_throw) = true
  · exact Or.inr (Or.inr (Or.inl ⟨eq_of_beq e2, by rw [if_pos e2] at h; exact h.symm⟩))
  rw [if_neg e2] at h
  by_cases e3 : (s == w_hd) = true
  · exact Or.inr (Or.inr (Or.inr (Or.inl ⟨eq_of_beq e3, by rw [if_pos e3] at h; exact h.symm⟩)))
  rw [if_neg e3] at h
  by_cases e4 : (s == w_tl) = true
  · exact Or.inr (Or.inr (Or.inr (Or.inr (Or.inl ⟨eq_of_beq e4, by rw [if_pos e4] at h; exact h.symm⟩))))
  rw [if_neg e4] at h
  by_cases e5 : (s == w_tuple_size) = true
  · exact Or.inr (Or.inr (Or.inr (Or.inr (Or.inr (Or.inl ⟨eq_of_beq e5, by rw [if_pos e5] at h; exact h.symm⟩)))))
  rw [if_neg e5] at h
  by_cases e6 : (s == w_byte_size) = true
  · exact Or.inr (Or.inr (Or.inr (Or.inr (Or.inr (Or.inr (Or.inl ⟨eq_of_beq e6, by rw [if_pos e6] at h; exact h.symm⟩))))))
  rw [if_neg e6] at h
  by_cases e7 : (s == w_length) = true
  · exact Or.inr (Or.inr (Or.inr (Or.inr (Or.inr (Or.inr (Or.inr (Or.inl ⟨eq_of_beq e7, by rw [if_pos e7] at h; exact h.symm⟩)))))))
  rw [if_neg e7] at h
  by_cases e8 : (s == w_list_to_tuple) = true
  · exact Or.inr (Or.inr (Or.inr (Or.inr (Or.inr (Or.inr (Or.inr (Or.inr (Or.inl ⟨eq_of_beq e8, by rw [if_pos e8] at h; exact h.symm⟩))))))))
  rw [if_neg e8] at h
  by_cases e9 : (s == w_tuple_to_list) = true
  · exact Or.inr (Or.inr (Or.inr (Or.inr (Or.inr (Or.inr (Or.inr (Or.inr (Or.inr (Or.inl ⟨eq_of_beq e9, by rw [if_pos e9] at h; exact h.symm⟩)))))))))
  rw [if_neg e9] at h
  by_cases e10 : (s == w_integer_to_list) = true
  · exact Or.inr (Or.inr (Or.inr (Or.inr (Or.inr (Or.inr (Or.inr (Or.inr (Or.inr (Or.inr (Or.inl ⟨eq_of_beq e10, by rw [if_pos e10] at h; exact h.symm⟩))))))))))
  rw [if_neg e10] at h
  by_cases e11 : (s == w_atom_to_list) = true
  · exact Or.inr (Or.inr (Or.inr (Or.inr (Or.inr (Or.inr (Or.inr (Or.inr (Or.inr (Or.inr (Or.inr (Or.inl ⟨eq_of_beq e11, by rw [if_pos e11] at h; exact h.symm⟩)))))))))))
  rw [if_neg e11] at h
  by_cases e12 : (s == w_element) = true
  · exact Or.inr (Or.inr (Or.inr (Or.inr (Or.inr (Or.inr (Or.inr (Or.inr (Or.inr (Or.inr (Or.inr (Or.inr (Or.inl ⟨eq_of_beq e12, by rw [if_pos e12] at h; exact h.symm⟩))))))))))))
  rw [if_neg e12] at h
  by_cases e13 : (s == w_pp) = true
  · exact Or.inr (Or.inr (Or.inr (Or.inr (Or.inr (Or.inr (Or.inr (Or.inr (Or.inr (Or.inr (Or.inr (Or.inr (Or.inr (Or.inl ⟨eq_of_beq e13, by rw [if_pos e13] at h; exact h.symm⟩)))))))))))))
  rw [if_neg e13] at h
  by_cases e14 : (s == w_max) = true
  · exact Or.inr (Or.inr (Or.inr (Or.inr (Or.inr (Or.inr (Or.inr (Or.inr (Or.inr (Or.inr (Or.inr (Or.inr (Or.inr (Or.inr (Or.inl ⟨eq_of_beq e14, by rw [if_pos e14] at h; exact h.symm⟩))))))))))))))
  rw [if_neg e14] at h
  by_cases e15 : (s == w_min) = true
  · exact Or.inr (Or.inr (Or.inr (Or.inr (Or.inr (Or.inr (Or.inr (Or.inr (Or.inr (Or.inr (Or.inr (Or.inr (Or.inr (Or.inr (Or.inr (Or.inl ⟨eq_of_beq e15, by rw [if_pos e15] at h; exact h.symm⟩)))))))))))))))
  rw [if_neg e15] at h
  by_cases e16 : (s == w_setelement) = true
  · exact Or.inr (Or.inr (Or.inr (Or.inr (Or.inr (Or.inr (Or.inr (Or.inr (Or.inr (Or.inr (Or.inr (Or.inr (Or.inr (Or.inr (Or.inr (Or.inr (⟨eq_of_beq e16, by rw [if_pos e16] at h; exact h.symm⟩))))))))))))))))
  rw [if_neg e16] at h
  omega
theorem arL_cases (s : List UInt8) (k : Int) (h : arL s = k) (hk : 0 < k) : (s = w_reverse ∧ k = 1) ∨ (s = w_member ∧ k = 2) := by
  unfold arL at h
  by_cases e0 : (s == w_reverse) = true
  · exact Or.inl ⟨eq_of_beq e0, by rw [if_pos e0] at h; exact h.symm⟩
  rw [if_neg e0] at h
  by_cases e1 : (s == w_member) = true
  · exact Or.inr ⟨eq_of_beq e1, by rw [if_pos e1] at h; exact h.symm⟩
  rw [if_neg e1] at h
  omega
structure CallP (m s : List UInt8) (us : List T) (x y : T) (c : List UInt8) (r r' : T) (o : Bool) : Prop where
  p : ∀ n d, 2000 < n → evalFn Tryz.prog cfg4 n (d+5) 8 [.tree (.str m), .tree (.str s), .tree (.sl (cellsK (copyK us)) (copyK us).length (gr (kgOf (copyK us))))] = some (.tree (.tup [encT x, .agg (errG c r), .bool o]), [[], [], []])
  q : ∀ n d, 2000 < n → evalFn Tryz.prog cfg4 n (d+5) 10 [.tree (.str m), .tree (.str s), .tree (.sl (cellsK us) us.length .loose)] = some (.tree (.tup [encT y, .agg (errG c r'), .bool o]), [[], [], []])
  ok : okX x
  same : bareT x = bareT y
  okr : okX r
  samer : bareT r = bareT r'
theorem kg_cons (t : T) (r : List T) : gr (kgOf (copyK (t :: r))) = .loose := by
  have h : copyK (t :: r) ≠ [] := by rw [copyK_map]; simp
  rw [kgOf, if_neg h]; rfl
theorem gr_tok (g : Gk) : (gr g).isTok = false := by cases g <;> rfl
theorem okX_at (s : List UInt8) : okX (atomT s) := okX_leaf 2 false .n [] s 0 (by simp)
theorem callP_undef (m s : List UInt8) (us : List T) (hs : s.length ≤ 9000000000000000000) (hh : hasW m s us.length = false) : ∃ x y c r r' o, CallP m s us x y c r r' o := by
  refine ⟨T0, T0, sErrW, atomT sUndefW, atomT sUndefW, false, ⟨fun n d _ => ?_, fun n d _ => ?_, okX_0, rfl, okX_at _, rfl⟩⟩
  · exact callU_undef n (d+3) m s (copyK us) (gr (kgOf (copyK us))) hs (by rw [copyK_len]; exact hh)
  · exact rcallU_undef n (d+1) m s us .loose hh
theorem callP_thrown (m s : List UInt8) (t : T) (ht : FewY t) (hm : m = erlW) (hs : s.length ≤ 9000000000000000000) (hh : hasW m s ([t].length : Nat) = true) (hc : evalFn Tryz.prog cfg0 100000 20 33 [.tree (.sl throws 3 .tight), .tree (.str s)] = some (.tree (.bool true), [[], []])) (hi : isThr s = true) : ∃ x y c r r' o, CallP m s [t] x y c r r' o := by
  have hn := ht.nod
  refine ⟨T0, T0, s, copyT t, t, false, ⟨fun n d _ => ?_, fun n d _ => ?_, okX_0, rfl, okX_nod _ (few_copy _ _ ht.few) (by rw [nod_copy]; omega), bare_copy t⟩⟩
  · exact callU_thrown n (d+3) m s (copyK [t]) (gr (kgOf (copyK [t]))) hs (copyT t) [] hm (by simp only [copyK]) (by rw [copyK_len]; exact hh) hc
  · exact rcallU_thrown n (d+1) m s [t] .loose t [] hm rfl hh hi
theorem callP1 (m s : List UInt8) (t : T) (hs : s.length ≤ 9000000000000000000) (hh : hasW m s ([t].length : Nat) = true) (hc : m ≠ erlW ∨ evalFn Tryz.prog cfg0 100000 20 33 [.tree (.sl throws 3 .tight), .tree (.str s)] = some (.tree (.bool false), [[], []])) (hi : isThr s = false) (A : ∃ x y o, Ans1 s t x y o) : ∃ x y c r r' o, CallP m s [t] x y c r r' o := by
  obtain ⟨x, y, o, a⟩ := A
  have ec : copyK [t] = [copyT t] := by simp only [copyK]
  have hh' : hasW m s ((copyK [t]).length : Nat) = true := by rw [copyK_len]; exact hh
  have ap : ∀ n d, evalFn Tryz.prog cfg4 n (d+2) 34 [.tree (.str s), .tree (.sl (cellsK (copyK [t])) (copyK [t]).length (gr (kgOf (copyK [t]))))] = some (.tree (.tup [encT x, .bool o]), [[], []]) := by
    intro n d
    rw [kg_cons, ec]
    exact banswer1W n d s (copyT t) x o .loose a.p
  have hny := nod_bare2 a.same a.ok.2
  cases o with
  | false =>
    exact ⟨T0, T0, sErrW, atomT sBad, atomT sBad, false, ⟨fun n d _ => callU_bad n (d+3) m s (copyK [t]) _ (gr_tok _) hs x hh' hc (ap n (d+2)), fun n d _ => rcall_one_bad n (d+1) m s [t] .loose rfl y hh (.inr hi) t rfl a.q, okX_0, rfl, okX_at _, rfl⟩⟩
  | true =>
    exact ⟨x, y, [], T0, T0, true, ⟨fun n d _ => callU_ok n (d+3) m s (copyK [t]) _ (gr_tok _) hs x a.ok.2 hh' hc (ap n (d+2)), fun n d _ => rcall_one_ok n (d+1) m s [t] .loose rfl y hny hh (.inr hi) t rfl a.q, a.ok.1, a.same, okX_0, rfl⟩⟩
theorem callPN (m s : List UInt8) (t : T) (us : List T) (hl : us ≠ []) (hs : s.length ≤ 9000000000000000000) (hh : hasW m s ((t :: us).length : Nat) = true) (hc : m ≠ erlW ∨ evalFn Tryz.prog cfg0 100000 20 33 [.tree (.sl throws 3 .tight), .tree (.str s)] = some (.tree (.bool false), [[], []])) (hi : isThr s = false) (A : ∃ x y o, AnsN s (t :: us) x y o) : ∃ x y c r r' o, CallP m s (t :: us) x y c r r' o := by
  obtain ⟨x, y, o, a⟩ := A
  have h1 : (t :: us).length ≠ 1 := by
    have := List.length_pos_iff.mpr hl
    rw [List.length_cons]; omega
  have hh' : hasW m s ((copyK (t :: us)).length : Nat) = true := by rw [copyK_len]; exact hh
  have ap : ∀ n d, evalFn Tryz.prog cfg4 n (d+2) 34 [.tree (.str s), .tree (.sl (cellsK (copyK (t :: us))) (copyK (t :: us)).length (gr (kgOf (copyK (t :: us)))))] = some (.tree (.tup [encT x, .bool o]), [[], []]) := by
    intro n d
    rw [kg_cons]
    exact a.p n d
  cases o with
  | false =>
    exact ⟨T0, T0, sErrW, atomT sBad, atomT sBad, false, ⟨fun n d _ => callU_bad n (d+3) m s (copyK (t :: us)) _ (gr_tok _) hs x hh' hc (ap n (d+2)), fun n d hn => rcall_more_bad n (d+1) m s (t :: us) .loose rfl y hh (.inr hi) h1 (a.q n (d+2) hn), okX_0, rfl, okX_at _, rfl⟩⟩
  | true =>
    have hok := a.ok.resolve_right (by decide)
    have hsm := a.same.resolve_right (by decide)
    exact ⟨x, y, [], T0, T0, true, ⟨fun n d _ => callU_ok n (d+3) m s (copyK (t :: us)) _ (gr_tok _) hs x hok.2 hh' hc (ap n (d+2)), fun n d hn => rcall_more_ok n (d+1) m s (t :: us) .loose rfl y (nod_bare2 hsm hok.2) hh (.inr hi) h1 (a.q n (d+2) hn), hok.1, hsm, okX_0, rfl⟩⟩
theorem of1 (us : List T) (h : (us.length : Int) = 1) : ∃ t, us = [t] := by
  match us, h with
  | [t], _ => exact ⟨t, rfl⟩
  | [], h => simp at h
  | _ :: _ :: _, h => simp only [List.length_cons] at h; omega
theorem of2 (us : List T) (h : (us.length : Int) = 2) : ∃ a b, us = [a, b] := by
  match us, h with
  | [a, b], _ => exact ⟨a, b, rfl⟩
  | [], h => simp at h
  | [_], h => simp at h
  | _ :: _ :: _ :: _, h => simp only [List.length_cons] at h; omega
theorem of3 (us : List T) (h : (us.length : Int) = 3) : ∃ a b c, us = [a, b, c] := by
  match us, h with
  | [a, b, c], _ => exact ⟨a, b, c, rfl⟩
  | [], h => simp at h
  | [_], h => simp at h
  | [_, _], h => simp at h
  | _ :: _ :: _ :: _ :: _, h => simp only [List.length_cons] at h; omega
theorem calls_pair (m s : List UInt8) (us : List T) (hs : s.length ≤ 9000000000000000000) (hy : ∀ t ∈ us, FewY t) : ∃ x y c r r' o, CallP m s us x y c r r' o := by
  cases hh : hasW m s us.length with
  | false => exact callP_undef m s us hs hh
  | true =>
  have hne : erlW ≠ lisW := by decide
  by_cases hm : m = erlW
  · have h1 := hh
    rw [hm, has_e, Bool.and_eq_true, decide_eq_true_eq, beq_iff_eq] at h1
    rcases arE_cases s _ h1.2 h1.1 with ⟨rfl, hk⟩ | ⟨rfl, hk⟩ | ⟨rfl, hk⟩ | ⟨rfl, hk⟩ | ⟨rfl, hk⟩ | ⟨rfl, hk⟩ | ⟨rfl, hk⟩ | ⟨rfl, hk⟩ | ⟨rfl, hk⟩ | ⟨rfl, hk⟩ | ⟨rfl, hk⟩ | ⟨rfl, hk⟩ | ⟨rfl, hk⟩ | ⟨rfl, hk⟩ | ⟨rfl, hk⟩ | ⟨rfl, hk⟩ | ⟨rfl, hk⟩
    · obtain ⟨t, rfl⟩ := of1 us hk
      exact callP_thrown m w_error t (hy t (by simp)) hm hs hh cont_error (by decide)
    · obtain ⟨t, rfl⟩ := of1 us hk
      exact callP_thrown m w_exit t (hy t (by simp)) hm hs hh cont_exit (by decide)
    · obtain ⟨t, rfl⟩ := of1 us hk
      exact callP_thrown m w_throw t (hy t (by simp)) hm hs hh cont_throw (by decide)
    · obtain ⟨t, rfl⟩ := of1 us hk
      exact callP1 m w_hd t hs hh (.inr cont_hd) (by decide) (ans1_hd t (hy t (by simp)))
    · obtain ⟨t, rfl⟩ := of1 us hk
      exact callP1 m w_tl t hs hh (.inr cont_tl) (by decide) (ans1_tl t (hy t (by simp)))
    · obtain ⟨t, rfl⟩ := of1 us hk
      exact callP1 m w_tuple_size t hs hh (.inr cont_tuple_size) (by decide) (ans1_tuple_size t (hy t (by simp)))
    · obtain ⟨t, rfl⟩ := of1 us hk
      exact callP1 m w_byte_size t hs hh (.inr cont_byte_size) (by decide) (ans1_byte_size t (hy t (by simp)))
    · obtain ⟨t, rfl⟩ := of1 us hk
      exact callP1 m w_length t hs hh (.inr cont_length) (by decide) (ans1_length t (hy t (by simp)))
    · obtain ⟨t, rfl⟩ := of1 us hk
      exact callP1 m w_list_to_tuple t hs hh (.inr cont_list_to_tuple) (by decide) (ans1_list_to_tuple t (hy t (by simp)))
    · obtain ⟨t, rfl⟩ := of1 us hk
      exact callP1 m w_tuple_to_list t hs hh (.inr cont_tuple_to_list) (by decide) (ans1_tuple_to_list t (hy t (by simp)))
    · obtain ⟨t, rfl⟩ := of1 us hk
      exact callP1 m w_integer_to_list t hs hh (.inr cont_integer_to_list) (by decide) (ans1_integer_to_list t (hy t (by simp)))
    · obtain ⟨t, rfl⟩ := of1 us hk
      exact callP1 m w_atom_to_list t hs hh (.inr cont_atom_to_list) (by decide) (ans1_atom_to_list t (hy t (by simp)))
    · obtain ⟨a, b, rfl⟩ := of2 us hk
      exact callPN m w_element a [b] (by simp) hs hh (.inr cont_element) (by decide) (ans_element a b (hy a (by simp)) (hy b (by simp)))
    · obtain ⟨a, b, rfl⟩ := of2 us hk
      exact callPN m w_pp a [b] (by simp) hs hh (.inr cont_pp) (by decide) (ans_pp a b (hy a (by simp)) (hy b (by simp)))
    · obtain ⟨a, b, rfl⟩ := of2 us hk
      exact callPN m w_max a [b] (by simp) hs hh (.inr cont_max) (by decide) (ans_max a b (hy a (by simp)) (hy b (by simp)))
    · obtain ⟨a, b, rfl⟩ := of2 us hk
      exact callPN m w_min a [b] (by simp) hs hh (.inr cont_min) (by decide) (ans_min a b (hy a (by simp)) (hy b (by simp)))
    · obtain ⟨a, b, c, rfl⟩ := of3 us hk
      exact callPN m w_setelement a [b, c] (by simp) hs hh (.inr cont_setelement) (by decide) (ans_setelement a b (hy a (by simp)) (hy b (by simp)) c (hy c (by simp)))
  · by_cases hl : m = lisW
    · have h1 := hh
      rw [hl, has_l, Bool.and_eq_true, decide_eq_true_eq, beq_iff_eq] at h1
      rcases arL_cases s _ h1.2 h1.1 with ⟨rfl, hk⟩ | ⟨rfl, hk⟩
      · obtain ⟨t, rfl⟩ := of1 us hk
        exact callP1 m w_reverse t hs hh (.inl hm) (by decide) (ans1_reverse t (hy t (by simp)))
      · obtain ⟨a, b, rfl⟩ := of2 us hk
        exact callPN m w_member a [b] (by simp) hs hh (.inl hm) (by decide) (ans_member a b (hy a (by simp)) (hy b (by simp)))
    · rw [has_n m s _ hm hl] at hh; cases hh
end Go.Ab

/- The statement BifCalls (CFG4). Conditions: terms; limbs, texts in range; a name that is no longer than a number may tell. -/
namespace Go.Ab
open Go.Proofs
set_option maxRecDepth 100000
set_option linter.unusedSimpArgs false

theorem fdEV0 : fieldOf Tryz.prog 31 0 = some (9, 0) := by kernel_rfl
theorem fdEV1 : fieldOf Tryz.prog 31 1 = some (29, 1) := by kernel_rfl
theorem faEV_0 (s : St) (p k : Nat) : fieldAddrA Tryz.prog 31 s (.ptr p k 0) 0 = faE (s p) p k 0 := by
  simp only [fieldAddrA, fdEV0, esz9, live, cellsAt_E, faE, Nat.zero_add]
theorem faEV_1 (s : St) (p k : Nat) : fieldAddrA Tryz.prog 31 s (.ptr p k 0) 1 = faE (s p) p k 1 := by
  simp only [fieldAddrA, fdEV1, eszT, live, cellsAt_E, faE, Nat.zero_add]
theorem fdQ0 : fieldOf Tryz.prog 35 0 = some (9, 0) := by kernel_rfl
theorem fdQ1 : fieldOf Tryz.prog 35 1 = some (29, 1) := by kernel_rfl
theorem faQ_0 (s : St) (p k : Nat) : fieldAddrA Tryz.prog 35 s (.ptr p k 0) 0 = faE (s p) p k 0 := by
  simp only [fieldAddrA, fdQ0, esz9, live, cellsAt_E, faE, Nat.zero_add]
theorem faQ_1 (s : St) (p k : Nat) : fieldAddrA Tryz.prog 35 s (.ptr p k 0) 1 = faE (s p) p k 1 := by
  simp only [fieldAddrA, fdQ1, eszT, live, cellsAt_E, faE, Nat.zero_add]
theorem ldG_0 (t k : Nat) (x : List UInt8) (r : T) : ldE Tryz.prog 9 ⟨t, .buf (errG x r)⟩ k 0 = if t = k then some (.str x) else none := by
  rw [ldE_buf, cellsE_buf]
  by_cases h : t = k
  · simp only [h, if_true, Option.bind_some, partA, shTs, errG]; rfl
  · simp [h]
theorem ldG_1 (t k : Nat) (x : List UInt8) (r : T) : ldE Tryz.prog 29 ⟨t, .buf (errG x r)⟩ k 1 = if t = k then some (.agg (cellsT r)) else none := by
  rw [ldE_buf, cellsE_buf]
  obtain ⟨k1, b, lg, l, s, m, kg, ks⟩ := r
  by_cases h : t = k
  · simp only [h, if_true, Option.bind_some, partA, shT, errG]; rfl
  · simp [h]
set_option maxHeartbeats 64000000 in
theorem calls_B (n : Nat) (hn : 3000 ≤ n) (m s : List UInt8) (l : List T) (k : Int) (hs : s.length ≤ 9000000000000000000) (hl : bigK 9223372036854775808 l) (fl : fewK 9223372036854775808 l) :
    evalFn Tryz.prog cfg4 n 10 3 [.tree (.str m), .tree (.str s), .tree (.sl (cellsK l) l.length .loose), .tree (.int .i64 k)] = some (.tree (.bool true), [[], [], [], []]) := by
  rw [evalFn_go _ Tryz.func3 (by unfold Tryz.f3; rfl) (by unfold Tryz.f3; decide) (Nat.le_of_ble_eq_true (by unfold Tryz.f3; rfl)) (by kernel_rfl)]
  have wa := fun D st => callA_trees (cfg := cfg4) (d := D) (s := st) (f := 7) (vs := []) rfl (awake4 n 8)
  have k3 := fun D st => callA_trees (cfg := cfg4) (d := D) (s := st) (f := 6) (vs := [.sl (cellsK l) l.length .loose]) rfl (few4 n 8 l .loose hl fl)
  cases g3 : (fewR 12 l && decide (l.length ≤ 12)) with
  | false =>
    rw [g3] at k3
    simp only [simB, keep4, Nat.reduceBEq, own4, String.reduceAppend, String.reduceBEq, Bool.or_false, Bool.or_true, Bool.or_self, ↓reduceIte, Nat.reduceEqDiff, Nat.reduceAdd, simA, simL, simN, Nat.zero_add, k3, unA_not', Bool.not_true, Bool.not_false, wa]
    exact finish_b _ _ _ _ _ _ _ (by simp only [zfr, ↓reduceIte, Nat.reduceEqDiff]; try rfl) rfl
  | true =>
  rw [g3] at k3
  rw [Bool.and_eq_true, decide_eq_true_eq] at g3
  have la := fewR_all 12 l g3.1 g3.2
  have xl : ∀ t ∈ l, FewY t := fun t ht => fewY_of t (bigK_mem _ l hl t ht) (la t ht)
  have cl := fun D st => callA_trees (cfg := cfg4) (d := D) (s := st) (f := 9) (vs := [.sl (cellsK l) l.length .loose]) rfl (terms4_eq n 7 l .loose (by omega) (by omega) (fun t ht => ⟨by have := ht_nod t; have := (xl t ht).nod; omega, (xl t ht).few⟩))
  obtain ⟨x, y, c, r, r', o, P⟩ := calls_pair m s l hs xl
  have hgt : isTree (.sl (cellsK (copyK l)) (copyK l).length (gr (kgOf (copyK l)))) = true := okTreeW _ _ (gr_tok _)
  have c1 := fun D st => callA_trees (cfg := cfg4) (d := D) (s := st) (f := 8) (vs := [.str m, .str s, .sl (cellsK (copyK l)) (copyK l).length (gr (kgOf (copyK l)))]) (by simp only [List.all_cons, hgt]; rfl) (P.p n 4 (by omega))
  have c2 := fun D st => callA_trees (cfg := cfg4) (d := D) (s := st) (f := 10) (vs := [.str m, .str s, .sl (cellsK l) l.length .loose]) rfl (P.q n 4 (by omega))
  have s1 := fun D st => callA_trees (cfg := cfg4) (d := D) (s := st) (f := 11) (vs := [encT x, encT y]) rfl (same4 n 8 x y P.ok P.same)
  have s2 := fun D st => callA_trees (cfg := cfg4) (d := D) (s := st) (f := 11) (vs := [encT r, encT r']) rfl (same4 n 8 r r' P.okr P.samer)
  have h1 := fun D st => callA_trees (cfg := cfg4) (d := D) (s := st) (f := 12) (vs := [.str m, .str s, .int .i64 k]) rfl (ev4 (n := n) (d := 8) rfl rfl (bhas_eq 9223372036854775808 6189 (by decide) (by decide) m s k hs))
  have h2 := fun D st => callA_trees (cfg := cfg4) (d := D) (s := st) (f := 13) (vs := [.str m, .str s, .int .i64 k]) rfl (ev4 (n := n) (d := 8) rfl rfl (rhas_eq 9223372036854775808 6189 (by decide) (by decide) m s k))
  have eb := bool_eql 4 tk4W
  have b1 : (o == o) = true := beq_self_eq_true _
  have b2 : (c == c) = true := beq_self_eq_true _
  have b3 : (hasW m s k == hasW m s k) = true := beq_self_eq_true _
  simp only [encT] at c1 c2 s1 s2
  simp only [simB, keep4, Nat.reduceBEq, own4, String.reduceAppend, String.reduceBEq, Bool.or_false, Bool.or_true, Bool.or_self, ↓reduceIte, Nat.reduceEqDiff, Nat.reduceAdd, simA, simL, simN, Nat.zero_add, zex, List.toList_toArray, len9, ix9, zey, zez, zfa, zfb, zfc, zeroT, zeroE, zeroQ, k3, unA_not', Bool.not_true, cl, c1, c2, s1, s2, h1, h2, zdu, st_Tt, stT_6, st_EG, st_QG, stE_G, ldT_u, eb, b1, b2, b3, s_eqlS, faEV_0, faEV_1, faQ_0, faQ_1, ldG_0, ldG_1, wa]
  exact finish_b _ _ _ _ _ _ _ (by simp only [zfr, ↓reduceIte, Nat.reduceEqDiff]; try rfl) rfl
end Go.Ab

/- The walk of BifCalls (CFG4): it gives true, and leaves memory below as it was. Conditions: a name of the form's own reach. -/
namespace Go.Ab
open Go.Proofs Go.RowKit
theorem walkBCalls (m s : ByteArray) (a2 : Option Addr) (len2 cap2 : Nat) (k : Int) (w : World) (_hm : m.data.toList.length < 2 ^ 47) (hs : s.data.toList.length < 2 ^ 47) (h2 : IsTerms w a2 len2 cap2) (_hk : (Lit.int .i64 k).wf = true) :
    Calls Tryz.prog 3 #[.string m, .string s, .slice a2 len2 cap2, .int .i64 k] w fun e w' => e = .returned (.bool true) ∧ Below w.heap.size w w' := by
  obtain ⟨ks, rfl, hb, hf, hv⟩ := h2
  refine lawCallsP (cfg := cfg4) mixed prim4_ok (vs := [.string m, .string s, .slice a2 ks.length cap2, .int .i64 k]) (calls_B 3000 (Nat.le_refl _) m.data.toList s.data.toList ks k (by omega) hb hf) rfl (st0_4W _ _ _ _) (fun j v hj => ?_) true rfl
  match j, hj with
  | 0, hj => cases hj; exact ⟨by simp [env0, V0], rfl⟩
  | 1, hj => cases hj; exact ⟨by simp [env0, V0], rfl⟩
  | 2, hj => cases hj; exact ⟨hv, rfl⟩
  | 3, hj => cases hj; exact ⟨by simp [env0, V0], rfl⟩
end Go.Ab
