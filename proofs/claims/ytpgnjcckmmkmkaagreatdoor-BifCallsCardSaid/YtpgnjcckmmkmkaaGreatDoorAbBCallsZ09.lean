/- Several texts put together: AbzV8, AbzV9, AbzV10, AbzV11, AbzV12, AbzV13, AbzV14. Conditions: as each part says. -/
import Derived.Test.YtpgnjcckmmkmkaaGreatDoorAbBCallsZ08
import Derived.Test.YtpgnjcckmmkmkaaGreatDoorAbBCallsZ06
/- Where a kind stands, of any kind; what a Cons is made of; the order of any terms. No conditions. -/
namespace Go.Ab
open Go.Proofs
set_option maxRecDepth 100000
set_option linter.unusedSimpArgs false

def rkX (k : Int) : Int := if k = 1 then 0 else if k = 2 then 1 else if k = 7 then 2 else if k = 5 then 3 else if k = 3 then 4 else if k = 4 then 5 else if k = 6 then 6 else if k = 8 then 7 else if k = 9 then 8 else 9
theorem rkX_out (k : Int) (h : k < 1 ∨ 9 < k) : rkX k = 9 := by
  unfold rkX
  rw [if_neg (by omega), if_neg (by omega), if_neg (by omega), if_neg (by omega), if_neg (by omega), if_neg (by omega), if_neg (by omega), if_neg (by omega), if_neg (by omega)]
theorem rkX_in (k : Int) (h : 1 ≤ k ∧ k ≤ 9) : rkX k ≤ 8 := by
  have c : k = 1 ∨ k = 2 ∨ k = 3 ∨ k = 4 ∨ k = 5 ∨ k = 6 ∨ k = 7 ∨ k = 8 ∨ k = 9 := by omega
  rcases c with rfl | rfl | rfl | rfl | rfl | rfl | rfl | rfl | rfl <;> decide
theorem rkX_eq (k k' : Int) (h : three (rkX k) (rkX k') = 0) : k = k' ∨ ((k < 1 ∨ 9 < k) ∧ (k' < 1 ∨ 9 < k')) := by
  have e : rkX k = rkX k' := by rw [three_zero] at h; exact h
  by_cases h1 : 1 ≤ k ∧ k ≤ 9
  · by_cases h2 : 1 ≤ k' ∧ k' ≤ 9
    · left
      have c : k = 1 ∨ k = 2 ∨ k = 3 ∨ k = 4 ∨ k = 5 ∨ k = 6 ∨ k = 7 ∨ k = 8 ∨ k = 9 := by omega
      have c' : k' = 1 ∨ k' = 2 ∨ k' = 3 ∨ k' = 4 ∨ k' = 5 ∨ k' = 6 ∨ k' = 7 ∨ k' = 8 ∨ k' = 9 := by omega
      rcases c with rfl | rfl | rfl | rfl | rfl | rfl | rfl | rfl | rfl <;> rcases c' with rfl | rfl | rfl | rfl | rfl | rfl | rfl | rfl | rfl <;> first | rfl | (exact absurd e (by decide))
    · have := rkX_in k h1
      have := rkX_out k' (by omega)
      omega
  · by_cases h2 : 1 ≤ k' ∧ k' ≤ 9
    · have := rkX_in k' h2
      have := rkX_out k (by omega)
      omega
    · right; omega
theorem rk_7 (d : Nat) : evalFn Tryz.prog cfg0 100000 (d+2) 124 [.tree (.int .i64 7)] = some (.tree (.int .i64 2), [[]]) := by kernel_rfl
theorem rk_8 (d : Nat) : evalFn Tryz.prog cfg0 100000 (d+2) 124 [.tree (.int .i64 8)] = some (.tree (.int .i64 7), [[]]) := by kernel_rfl
theorem rk_9 (d : Nat) : evalFn Tryz.prog cfg0 100000 (d+2) 124 [.tree (.int .i64 9)] = some (.tree (.int .i64 8), [[]]) := by kernel_rfl
theorem rrk_7 (d : Nat) : evalFn Tryz.prog cfg0 100000 (d+2) 45 [.tree (.int .i64 7)] = some (.tree (.int .i64 3), [[]]) := by kernel_rfl
theorem rrk_8 (d : Nat) : evalFn Tryz.prog cfg0 100000 (d+2) 45 [.tree (.int .i64 8)] = some (.tree (.int .i64 8), [[]]) := by kernel_rfl
theorem rrk_9 (d : Nat) : evalFn Tryz.prog cfg0 100000 (d+2) 45 [.tree (.int .i64 9)] = some (.tree (.int .i64 9), [[]]) := by kernel_rfl
theorem rrk_0 (d : Nat) : evalFn Tryz.prog cfg0 100000 (d+2) 45 [.tree (.int .i64 0)] = some (.tree (.int .i64 10), [[]]) := by kernel_rfl
def zI (n : Nat) : List AV := List.replicate n (.int .i64 0)
def ks9 : List AV := [.int .i64 1, .int .i64 2, .int .i64 7, .int .i64 5, .int .i64 3, .int .i64 4, .int .i64 6, .int .i64 8, .int .i64 9]
def ks10 : List AV := [.int .i64 10, .int .i64 1, .int .i64 2, .int .i64 5, .int .i64 6, .int .i64 4, .int .i64 7, .int .i64 3, .int .i64 8, .int .i64 9]
theorem tkI9 : tkOf Tryz.prog 138 = .arr 9 3 := by kernel_rfl
theorem eszI9 : esz Tryz.prog 138 = some 9 := by kernel_rfl
theorem zeroI9 : zeroOf Tryz.prog 138 = some (zI 9) := by kernel_rfl
theorem tkI10 : tkOf Tryz.prog 84 = .arr 10 3 := by kernel_rfl
theorem eszI10 : esz Tryz.prog 84 = some 10 := by kernel_rfl
theorem zeroI10 : zeroOf Tryz.prog 84 = some (zI 10) := by kernel_rfl
theorem eszI1 : esz Tryz.prog 3 = some 1 := by kernel_rfl
theorem bdI9 : buildA Tryz.prog 138 [(0, .int .i64 1), (1, .int .i64 2), (2, .int .i64 7), (3, .int .i64 5), (4, .int .i64 3), (5, .int .i64 4), (6, .int .i64 6), (7, .int .i64 8), (8, .int .i64 9)] = some (.agg ks9) := by
  simp only [buildA, zeroI9, tkI9, eszI1, Option.bind_some]; rfl
theorem bdI10 : buildA Tryz.prog 84 [(0, .int .i64 10), (1, .int .i64 1), (2, .int .i64 2), (3, .int .i64 5), (4, .int .i64 6), (5, .int .i64 4), (6, .int .i64 7), (7, .int .i64 3), (8, .int .i64 8), (9, .int .i64 9)] = some (.agg ks10) := by
  simp only [buildA, zeroI10, tkI10, eszI1, Option.bind_some]; rfl
def stIx (ks : List AV) (e : Ent) (p k : Nat) (st : St) : Option St := match e with | ⟨t, .buf xs⟩ => if t = k then (if ks.length ≤ xs.length then some (upd st p ⟨t, .buf (splice xs 0 ks)⟩) else none) else none | _ => none
theorem st_I9 (st : St) (p k : Nat) : storeA Tryz.prog 138 st (.ptr p k 0) (.agg ks9) = stIx ks9 (st p) p k st := by
  simp only [storeA, settle, Option.bind_some, stIx]
  have h5 : ks9.length = 9 := rfl
  cases h : st p with
  | mk t c => cases c <;> simp [eszI9, h5]
theorem st_I10 (st : St) (p k : Nat) : storeA Tryz.prog 84 st (.ptr p k 0) (.agg ks10) = stIx ks10 (st p) p k st := by
  simp only [storeA, settle, Option.bind_some, stIx]
  have h5 : ks10.length = 10 := rfl
  cases h : st p with
  | mk t c => cases c <;> simp [eszI10, h5]
theorem stI9_new (t p k : Nat) (st : St) : stIx ks9 ⟨t, .buf (zI 9)⟩ p k st = if t = k then some (upd st p ⟨t, .buf ks9⟩) else none := by
  rw [stIx, if_pos (show ks9.length ≤ (zI 9).length from Nat.le_refl _)]; rfl
theorem stI10_new (t p k : Nat) (st : St) : stIx ks10 ⟨t, .buf (zI 10)⟩ p k st = if t = k then some (upd st p ⟨t, .buf ks10⟩) else none := by
  rw [stIx, if_pos (show ks10.length ≤ (zI 10).length from Nat.le_refl _)]; rfl
def slI9 (e : Ent) (p k : Nat) : Option AV := (cellsE e k).bind fun xs => if 9 ≤ xs.length then some (.own p k 0 9 1) else none
theorem sl_I9 (s : St) (p k : Nat) : sliceA Tryz.prog 138 s (.ptr p k 0) none none none = slI9 (s p) p k := by
  simp only [sliceA, tkI9, eszI1, boundA, Option.bind_some, cellsAt_E, slI9, Option.isSome_none, Bool.false_eq_true, if_false]
  cases cellsE (s p) k <;> simp
theorem slI9_buf (t p k : Nat) : slI9 ⟨t, .buf ks9⟩ p k = if t = k then some (.own p k 0 9 1) else none := by
  rw [slI9, cellsE_buf]
  by_cases e : t = k
  · rw [if_pos e, if_pos e]; rfl
  · rw [if_neg e, if_neg e]; rfl
theorem callA_lentF {cfg : Cfg} {call : FuncId → List Arg → Option Out} {d : Nat} {s : St} {f : FuncId} {p t len e : Nat} {xs : List AV} {v r : AV} (hlin : cfg.lin f 0 = false) (hs : s p = ⟨t, .buf xs⟩) (hl : len * e = xs.length) (hv : isTree v = true) (hr : flat r = true) (hr2 : ∀ vs, r ≠ .tup vs) (hc : call f [.tree (.sl xs len .loose), .tree v] = some (.tree r, [[], []])) : callA cfg call d s f [.own p t 0 len e, v] = some (r, s) := by
  have h1 : argsA cfg f s 1 [v] = some [.tree v] := argsA_trees f s [v] 1 (by simpa using hv)
  have h2 : givesOf v (.tree v) = none := by cases v <;> first | rfl | (rename_i g; cases g <;> rfl)
  have h3 : lendsOf v (.tree v) = none := by cases v <;> first | rfl | cases hv
  have hf : flatR (.tree r) = true := by
    cases r <;> first | exact hr | exact absurd rfl (hr2 _)
  have h4 : givesOf (.own p t 0 len e) (.tree (.sl xs len .loose)) = none := rfl
  have h5 : lendsOf (.own p t 0 len e) (.tree (.sl xs len .loose)) = some p := rfl
  rw [callA, argsA]
  simp only [argA, cellsAt, hs, if_true, Option.bind_some, Nat.zero_add, hl, Nat.le_refl, hlin, Bool.false_eq_true, if_false, List.drop_zero, List.take_length, h1, Option.map_some, givesL, h4, h2, lendsL, h5, h3, hc, hf, Bool.true_and]
  rw [if_pos (by simp)]
  simp [backA, h4, h2, resA]
theorem idxI_none (n d : Nat) (k : Int) (us : List Int) (h : ∀ x ∈ us, x ≠ k) (hn : us.length < n) (hl : us.length ≤ 1000) : evalFn Tryz.prog cfg0 n (d+1) 143 [.tree (.sl (us.map (.int .i64)) us.length .loose), .tree (.int .i64 k)] = some (.tree (.int .i64 (-1)), [[], []]) := by
  rw [evalFn_go _ Tryz.func143 (by unfold Tryz.f143; rfl) (by unfold Tryz.f143; decide) (Nat.le_of_ble_eq_true (by unfold Tryz.f143; rfl)) (by kernel_rfl)]
  simp only [simB, zbo, Nat.reduceBEq, own0, ↓reduceIte, Nat.reduceEqDiff, Nat.reduceAdd, simA, simL, simN, Nat.zero_add, len33, den_loop]
  trace_state
  refine loop_ends (X := Nat) (fun i env s => env 0 = .sl (us.map (.int .i64)) us.length .loose ∧ env 1 = .int .i64 k ∧ env 7 = .int .i64 (us.length : Int) ∧ env 8 = .int .i64 (i : Int) ∧ i ≤ us.length) (fun i => us.length - i) (fun _ => (.tree (.int .i64 (-1)), [[], []])) ?_ n 0 _ _ (by omega) ⟨(by simp only [zfr, ↓reduceIte, Nat.reduceEqDiff, env0, List.getElem?_cons_zero]; try rfl), (by simp only [zfr, ↓reduceIte, Nat.reduceEqDiff, env0, List.getElem?_cons_zero, List.getElem?_cons_succ]; try rfl), (by simp only [zfr, ↓reduceIte, Nat.reduceEqDiff]; try rfl), (by simp only [zfr, ↓reduceIte, Nat.reduceEqDiff]; try rfl), Nat.zero_le _⟩
  intro rr i hr ih env st ⟨e0, e1, e7, e8, hi⟩
  by_cases hlt : i < us.length
  · have q1 : (i : Int) < (us.length : Int) := by omega
    have ia := fun st => ia33 st (us.map (.int .i64)) us.length .loose i hlt
    rw [List.drop_eq_getElem_cons (by rw [List.length_map]; exact hlt), List.getElem_map] at ia
    have g' : (k == us[i]) = false := beq_eq_false_iff_ne.mpr fun e => h _ (List.getElem_mem hlt) e.symm
    have f5 := i_add Tryz.prog 3 (i : Int) 1 (by omega) (by omega)
    simp only [simB, zbo, Nat.reduceBEq, own0, ↓reduceIte, Nat.reduceEqDiff, Nat.reduceAdd, simL, simN, Nat.zero_add, e0, e1, e7, e8, q1, ia, ld33, i_eqlV, g', f5]
    exact ih (i + 1) _ _ (by omega) rfl ⟨(by simp only [zfr, ↓reduceIte, Nat.reduceEqDiff, e0]; try rfl), (by simp only [zfr, ↓reduceIte, Nat.reduceEqDiff, e1]; try rfl), (by simp only [zfr, ↓reduceIte, Nat.reduceEqDiff, e7]; try rfl), (by simp only [zfr, ↓reduceIte, Nat.reduceEqDiff]; try rfl), by omega⟩
  · have hie : i = us.length := by omega
    subst hie
    have q1 : ¬ (us.length : Int) < (us.length : Int) := by omega
    simp only [simB, zbo, Nat.reduceBEq, own0, ↓reduceIte, Nat.reduceEqDiff, Nat.reduceAdd, simL, simN, Nat.zero_add, e0, e1, e7, e8, q1]
    exact finish_i _ _ _ _ _ _ _ (by simp only [zfr, ↓reduceIte, Nat.reduceEqDiff]; try rfl) rfl
set_option maxHeartbeats 4000000 in
theorem rk_out (d : Nat) (k : Int) (h : k < 1 ∨ 9 < k) : evalFn Tryz.prog cfg0 100000 (d+2) 124 [.tree (.int .i64 k)] = some (.tree (.int .i64 9), [[]]) := by
  rw [evalFn_go _ Tryz.func124 (by unfold Tryz.f124; rfl) (by unfold Tryz.f124; decide) (Nat.le_of_ble_eq_true (by unfold Tryz.f124; rfl)) (by kernel_rfl)]
  have hx := idxI_none 100000 d k [1, 2, 7, 5, 3, 4, 6, 8, 9] (by intro x hx; simp only [List.mem_cons, List.not_mem_nil, or_false] at hx; omega) (by decide) (by decide)
  have ci := fun D st p t (hs : st p = ⟨t, .buf ks9⟩) => callA_lentF (cfg := cfg0) (call := evalFn Tryz.prog cfg0 100000 (d+1)) (d := D) (s := st) (f := 143) (p := p) (t := t) (len := 9) (e := 1) (xs := ks9) (v := .int .i64 k) (r := .int .i64 (-1)) rfl hs rfl rfl rfl (fun _ h => by cases h) hx
  have q1 : ¬ ((-1 : Int) ≥ 0) := by decide
  simp only [simB, zbo, Nat.reduceBEq, own0, ↓reduceIte, Nat.reduceEqDiff, Nat.reduceAdd, simA, simL, simN, Nat.zero_add, zeroI9, bdI9, st_I9, stI9_new, sl_I9, slI9_buf, ci, q1]
  exact finish_i _ _ _ _ _ _ _ (by simp only [zfr, ↓reduceIte, Nat.reduceEqDiff]; try rfl) rfl
theorem trkX (d : Nat) (k : Int) : evalFn Tryz.prog cfg0 100000 (d+2) 124 [.tree (.int .i64 k)] = some (.tree (.int .i64 (rkX k)), [[]]) := by
  by_cases h : k < 1 ∨ 9 < k
  · rw [rkX_out k h]; exact rk_out d k h
  · have c : k = 1 ∨ k = 2 ∨ k = 3 ∨ k = 4 ∨ k = 5 ∨ k = 6 ∨ k = 7 ∨ k = 8 ∨ k = 9 := by omega
    rcases c with rfl | rfl | rfl | rfl | rfl | rfl | rfl | rfl | rfl
    · exact rkx1 d
    · exact rkx2 d
    · exact rkx3 d
    · exact rkx4 d
    · exact rkx5 d
    · exact rkx6 d
    · exact rk_7 d
    · exact rk_8 d
    · exact rk_9 d
set_option maxHeartbeats 4000000 in
theorem rrk_out (d : Nat) (k : Int) (h : k < 0 ∨ 9 < k) : evalFn Tryz.prog cfg0 100000 (d+2) 45 [.tree (.int .i64 k)] = some (.tree (.int .i64 10), [[]]) := by
  rw [evalFn_go _ Tryz.func45 (by unfold Tryz.f45; rfl) (by unfold Tryz.f45; decide) (Nat.le_of_ble_eq_true (by unfold Tryz.f45; rfl)) (by kernel_rfl)]
  by_cases h0 : k < 0
  · simp only [simB, zbo, Nat.reduceBEq, own0, ↓reduceIte, Nat.reduceEqDiff, Nat.reduceAdd, simA, simL, simN, Nat.zero_add, zeroI10, bdI10, st_I10, stI10_new, h0]
    exact finish_i _ _ _ _ _ _ _ (by simp only [zfr, ↓reduceIte, Nat.reduceEqDiff]; try rfl) rfl
  · have h9 : k > 9 := by omega
    simp only [simB, zbo, Nat.reduceBEq, own0, ↓reduceIte, Nat.reduceEqDiff, Nat.reduceAdd, simA, simL, simN, Nat.zero_add, zeroI10, bdI10, st_I10, stI10_new, h0, h9]
    exact finish_i _ _ _ _ _ _ _ (by simp only [zfr, ↓reduceIte, Nat.reduceEqDiff]; try rfl) rfl
theorem rrkX (d : Nat) (k : Int) : evalFn Tryz.prog cfg0 100000 (d+2) 45 [.tree (.int .i64 k)] = some (.tree (.int .i64 (rkX k + 1)), [[]]) := by
  by_cases h : k < 1 ∨ 9 < k
  · rw [rkX_out k h]
    by_cases h0 : k = 0
    · subst h0; exact rrk_0 d
    · exact rrk_out d k (by omega)
  · have c : k = 1 ∨ k = 2 ∨ k = 3 ∨ k = 4 ∨ k = 5 ∨ k = 6 ∨ k = 7 ∨ k = 8 ∨ k = 9 := by omega
    rcases c with rfl | rfl | rfl | rfl | rfl | rfl | rfl | rfl | rfl
    · exact rrk1 d
    · exact rrk2 d
    · exact rrk3 d
    · exact rrk4 d
    · exact rrk5 d
    · exact rrk6 d
    · exact rrk_7 d
    · exact rrk_8 d
    · exact rrk_9 d
theorem kidN_eq (n d : Nat) (k : Int) (b : Bool) (lg : Gk) (l : List Nat) (s : List UInt8) (m : Int) (kg : Gk) (ks : List T) (i : Nat) (hi : ks.length ≤ i) :
    evalFn Tryz.prog cfg0 n (d+1) 122 [.tree (encT (.mk k b lg l s m kg ks)), .tree (.int .i64 (i : Int))] = some (.tree (encT nilT'), [[], []]) := by
  rw [evalFn_go _ Tryz.func122 (by unfold Tryz.f122; rfl) (by unfold Tryz.f122; decide) (Nat.le_of_ble_eq_true (by unfold Tryz.f122; rfl)) (by kernel_rfl)]
  have q1 : ¬ (i : Int) < (ks.length : Int) := by omega
  simp only [simB, zbo, Nat.reduceBEq, own0, ↓reduceIte, Nat.reduceEqDiff, Nat.reduceAdd, simA, simL, simN, Nat.zero_add, encT, cellsT, zeroT, faT_4, ldT_4, lenTk, q1, bdN3, st_Tt, stT_6]
  exact finish_cT _ _ _ _ _ nilT' _ _ _ (by simp only [zfr, ↓reduceIte, Nat.reduceEqDiff]; try rfl) (by simp only [zfr, ↓reduceIte, Nat.reduceEqDiff]; try rfl) rfl
theorem kidX_eq (n d : Nat) (k : Int) (b : Bool) (lg : Gk) (l : List Nat) (s : List UInt8) (m : Int) (kg : Gk) (ks : List T) (i : Nat) :
    evalFn Tryz.prog cfg0 n (d+1) 122 [.tree (encT (.mk k b lg l s m kg ks)), .tree (.int .i64 (i : Int))] = some (.tree (encT (ks.getD i nilT')), [[], []]) := by
  by_cases h : i < ks.length
  · rw [List.getD_eq_getElem?_getD, List.getElem?_eq_getElem h]
    exact kid_eq n d k b lg l s m kg ks i ks[i] _ (List.drop_eq_getElem_cons h)
  · rw [List.getD_eq_getElem?_getD, List.getElem?_eq_none (by omega)]
    exact kidN_eq n d k b lg l s m kg ks i (by omega)
theorem rpartN_eq (n d : Nat) (k : Int) (b : Bool) (lg : Gk) (l : List Nat) (s : List UInt8) (m : Int) (kg : Gk) (ks : List T) (i : Nat) (hi : ks.length ≤ i) :
    evalFn Tryz.prog cfg0 n (d+1) 48 [.tree (encT (.mk k b lg l s m kg ks)), .tree (.int .i64 (i : Int))] = some (.tree (encT nilT'), [[], []]) := by
  rw [evalFn_go _ Tryz.func48 (by unfold Tryz.f48; rfl) (by unfold Tryz.f48; decide) (Nat.le_of_ble_eq_true (by unfold Tryz.f48; rfl)) (by kernel_rfl)]
  have q1 : ¬ (i : Int) < (ks.length : Int) := by omega
  simp only [simB, zbo, Nat.reduceBEq, own0, ↓reduceIte, Nat.reduceEqDiff, Nat.reduceAdd, simA, simL, simN, Nat.zero_add, encT, cellsT, zeroT, faT_4, ldT_4, lenTk, q1, bdN3, st_Tt, stT_6]
  exact finish_cT _ _ _ _ _ nilT' _ _ _ (by simp only [zfr, ↓reduceIte, Nat.reduceEqDiff]; try rfl) (by simp only [zfr, ↓reduceIte, Nat.reduceEqDiff]; try rfl) rfl
theorem partX_eq (n d : Nat) (k : Int) (b : Bool) (lg : Gk) (l : List Nat) (s : List UInt8) (m : Int) (kg : Gk) (ks : List T) (i : Nat) :
    evalFn Tryz.prog cfg0 n (d+1) 48 [.tree (encT (.mk k b lg l s m kg ks)), .tree (.int .i64 (i : Int))] = some (.tree (encT (ks.getD i nilT')), [[], []]) := by
  by_cases h : i < ks.length
  · rw [List.getD_eq_getElem?_getD, List.getElem?_eq_getElem h]
    exact rpart_eq n d (.mk k b lg l s m kg ks) i ks[i] _ (List.drop_eq_getElem_cons h)
  · rw [List.getD_eq_getElem?_getD, List.getElem?_eq_none (by omega)]
    exact rpartN_eq n d k b lg l s m kg ks i (by omega)
def nilX (u : T) : Int := three (rkX 3) (rkX (kindT u))
mutual
def cmpX : T → T → Int
  | .mk k b _ l s n _ ks, u =>
    if k = 4 ∧ kindT u = 4 then cmpXC ks (kidsT u)
    else or2 (three (rkX k) (rkX (kindT u))) (if k = 1 then cmpI (numZ b l) (numT u) else if k = 2 ∨ k = 6 then strC s (strT u) else if k = 7 then or2 (three n (nT u)) (or2 (three ks.length (kidsT u).length) (cmpXL ks (kidsT u))) else if k = 5 then or2 (three ks.length (kidsT u).length) (cmpXL ks (kidsT u)) else if k = 8 then or2 (strC s (strT u)) (three n (nT u)) else if k = 9 then three n (nT u) else 0)
def cmpXC : List T → List T → Int
  | [], v => or2 (nilX (v.headD nilT')) (nilX (v.tail.headD nilT'))
  | x :: r, v => or2 (cmpX x (v.headD nilT')) (cmpXD r v.tail)
def cmpXD : List T → List T → Int
  | [], v => nilX (v.headD nilT')
  | x :: _, v => cmpX x (v.headD nilT')
def cmpXL : List T → List T → Int
  | [], [] => 0
  | [], _ :: _ => -1
  | _ :: _, [] => 1
  | x :: r, y :: q => or2 (cmpX x y) (cmpXL r q)
end
theorem cmpX_nil (u : T) : cmpX nilT' u = nilX u := by
  simp only [nilT', cmpX, nilX]
  simp only [Int.reduceEq, false_and, false_or, if_false, or2]
  split <;> simp_all
theorem getD0 (v : List T) (d : T) : v.getD 0 d = v.headD d := by cases v <;> rfl
theorem getD1 (v : List T) (d : T) : v.getD 1 d = v.tail.headD d := by cases v with | nil => rfl | cons a r => cases r <;> rfl
theorem cmpX_4 (b : Bool) (lg : Gk) (l : List Nat) (s : List UInt8) (n : Int) (kg : Gk) (ks : List T) (u : T) (hu : kindT u = 4) : cmpX (.mk 4 b lg l s n kg ks) u = or2 (cmpX (ks.getD 0 nilT') ((kidsT u).getD 0 nilT')) (cmpX (ks.getD 1 nilT') ((kidsT u).getD 1 nilT')) := by
  rw [cmpX, if_pos ⟨rfl, hu⟩, getD0 (kidsT u), getD1 (kidsT u)]
  match ks with
  | [] => simp only [cmpXC]; rw [← cmpX_nil, ← cmpX_nil]; rfl
  | [x] => simp only [cmpXC, cmpXD]; rw [← cmpX_nil]; rfl
  | x :: y :: r => simp only [cmpXC, cmpXD]; rfl
theorem cmpX_no (k : Int) (b : Bool) (lg : Gk) (l : List Nat) (s : List UInt8) (n : Int) (kg : Gk) (ks : List T) (u : T) (hu : ¬ (k = 4 ∧ kindT u = 4)) : cmpX (.mk k b lg l s n kg ks) u = or2 (three (rkX k) (rkX (kindT u))) (if k = 1 then cmpI (numZ b l) (numT u) else if k = 2 ∨ k = 6 then strC s (strT u) else if k = 7 then or2 (three n (nT u)) (or2 (three ks.length (kidsT u).length) (cmpXL ks (kidsT u))) else if k = 5 then or2 (three ks.length (kidsT u).length) (cmpXL ks (kidsT u)) else if k = 8 then or2 (strC s (strT u)) (three n (nT u)) else if k = 9 then three n (nT u) else 0) := by
  rw [cmpX, if_neg hu]
end Go.Ab

/- term.Cmp of any terms. Conditions: limbs in range; so many nodes at most. -/
namespace Go.Ab
open Go.Proofs
set_option maxRecDepth 100000
set_option linter.unusedSimpArgs false

set_option maxHeartbeats 8000000 in
theorem cmpFX_eq (d : Nat) (us vs : List T) (ag bg : Gk) (ha : us.length ≤ 1000)
    (h : ∀ i j x y q r, us.drop i = x :: q → vs.drop j = y :: r → evalFn Tryz.prog cfg0 100000 d 96 [.tree (encT x), .tree (encT y)] = some (.tree (.int .i64 (cmpX x y)), [[], []])) :
    evalFn Tryz.prog cfg0 100000 (d+1) 145 [.tree (.sl (cellsK us) us.length (gr ag)), .tree (.sl (cellsK vs) vs.length (gr bg)), .tree (.fn 96 [])] = some (.tree (.int .i64 (cmpXL us vs)), [[], [], []]) := by
  rw [evalFn_go _ Tryz.func145 (by unfold Tryz.f145; rfl) (by unfold Tryz.f145; decide) (Nat.le_of_ble_eq_true (by unfold Tryz.f145; rfl)) (by kernel_rfl)]
  simp only [simB, zbo, Nat.reduceBEq, own0, ↓reduceIte, Nat.reduceEqDiff, Nat.reduceAdd, simA, simL, lenTk, den_loop]
  refine loop_ends (X := Nat) (fun i env s => env 0 = .sl (cellsK us) us.length (gr ag) ∧ env 1 = .sl (cellsK vs) vs.length (gr bg) ∧ env 2 = .fn 96 [] ∧ env 11 = .sl (cellsK us) us.length (gr ag) ∧ env 12 = .int .i64 (us.length : Int) ∧ env 13 = .int .i64 (i : Int) ∧ i ≤ us.length ∧ i ≤ vs.length ∧ cmpXL (us.drop i) (vs.drop i) = cmpXL us vs) (fun i => us.length - i) (fun _ => (.tree (.int .i64 (cmpXL us vs)), [[], [], []])) ?_ 100000 0 _ _ (by omega) ⟨(by simp only [zfr, ↓reduceIte, Nat.reduceEqDiff, env0, List.getElem?_cons_zero, List.getElem?_cons_succ]; try rfl), (by simp only [zfr, ↓reduceIte, Nat.reduceEqDiff, env0, List.getElem?_cons_zero, List.getElem?_cons_succ]; try rfl), (by simp only [zfr, ↓reduceIte, Nat.reduceEqDiff, env0, List.getElem?_cons_zero, List.getElem?_cons_succ]; try rfl), (by simp only [zfr, ↓reduceIte, Nat.reduceEqDiff]; try rfl), (by simp only [zfr, ↓reduceIte, Nat.reduceEqDiff]; try rfl), (by simp only [zfr, ↓reduceIte, Nat.reduceEqDiff]; try rfl), Nat.zero_le _, Nat.zero_le _, rfl⟩
  intro k i hx ih env st ⟨e0, e1, e2, e11, e12, e13, hi, hi2, hc⟩
  cases hda : us.drop i with
  | nil =>
    have hil : i = us.length := by have := congrArg List.length hda; simp only [List.length_drop, List.length_nil] at this; omega
    have q1 : ¬ ((i : Int) < (us.length : Int)) := by omega
    rw [hda] at hc
    cases hdb : vs.drop i with
    | nil =>
      have hjl : i = vs.length := by have := congrArg List.length hdb; simp only [List.length_drop, List.length_nil] at this; omega
      rw [hdb] at hc
      simp only [cmpXL] at hc
      rw [← hc]
      have q2 : ¬ ((us.length : Int) < (vs.length : Int)) := by omega
      simp only [simB, zbo, Nat.reduceBEq, own0, ↓reduceIte, Nat.reduceEqDiff, Nat.reduceAdd, simL, e0, e1, e2, e11, e12, e13, q1, q2, lenTk]
      exact finish_i _ _ _ _ _ _ _ (by simp only [zfr, ↓reduceIte, Nat.reduceEqDiff]; try rfl) rfl
    | cons y r =>
      have hjl : i < vs.length := by have := congrArg List.length hdb; simp only [List.length_drop, List.length_cons] at this; omega
      rw [hdb] at hc
      simp only [cmpXL] at hc
      rw [← hc]
      have q2 : (us.length : Int) < (vs.length : Int) := by omega
      simp only [simB, zbo, Nat.reduceBEq, own0, ↓reduceIte, Nat.reduceEqDiff, Nat.reduceAdd, simL, e0, e1, e2, e11, e12, e13, q1, q2, lenTk]
      exact finish_i _ _ _ _ _ _ _ (by simp only [zfr, ↓reduceIte, Nat.reduceEqDiff]; try rfl) rfl
  | cons x q =>
    have hil : i < us.length := by have := congrArg List.length hda; simp only [List.length_drop, List.length_cons] at this; omega
    have q1 : (i : Int) < (us.length : Int) := by omega
    have ia := fun st => ia_K st us (gr ag) i hil
    rw [hda] at ia hc
    have ld := fun st => ld_K st x q
    simp only [encT] at ld
    cases hdb : vs.drop i with
    | nil =>
      have hjl : i = vs.length := by have := congrArg List.length hdb; simp only [List.length_drop, List.length_nil] at this; omega
      rw [hdb] at hc
      simp only [cmpXL] at hc
      rw [← hc]
      have q2 : (i : Int) ≥ (vs.length : Int) := by omega
      simp only [simB, zbo, Nat.reduceBEq, own0, ↓reduceIte, Nat.reduceEqDiff, Nat.reduceAdd, simL, simN, Nat.zero_add, e0, e1, e2, e11, e12, e13, q1, q2, lenTk, ia, ld, zeroT, st_Tt, stT_6]
      exact finish_i _ _ _ _ _ _ _ (by simp only [zfr, ↓reduceIte, Nat.reduceEqDiff]; try rfl) rfl
    | cons y r =>
      have hjl : i < vs.length := by have := congrArg List.length hdb; simp only [List.length_drop, List.length_cons] at this; omega
      have q2 : ¬ ((i : Int) ≥ (vs.length : Int)) := by omega
      have ib := fun st => ia_K st vs (gr bg) i hjl
      rw [hdb] at ib hc
      have ldb := fun st => ld_K st y r
      simp only [encT] at ldb
      simp only [cmpXL] at hc
      have cc := fun D st => callA_trees (cfg := cfg0) (d := D) (s := st) (f := 96) (vs := [encT x, encT y]) rfl (h i i x y q r hda hdb)
      simp only [encT] at cc
      have f5 := i_add Tryz.prog 3 (i : Int) 1 (by omega) (by omega)
      by_cases g : cmpX x y = 0
      · have g' : (cmpX x y != 0) = false := by rw [g]; rfl
        rw [or2_0 g] at hc
        simp only [simB, zbo, Nat.reduceBEq, own0, ↓reduceIte, Nat.reduceEqDiff, Nat.reduceAdd, simL, simN, Nat.zero_add, simV, e0, e1, e2, e11, e12, e13, q1, q2, lenTk, ia, ib, ld, ldb, zeroT, st_Tt, stT_6, ldT_u, cc, g', f5]
        exact ih (i + 1) _ _ (by omega) rfl ⟨(by simp only [zfr, ↓reduceIte, Nat.reduceEqDiff, e0]; try rfl), (by simp only [zfr, ↓reduceIte, Nat.reduceEqDiff, e1]; try rfl), (by simp only [zfr, ↓reduceIte, Nat.reduceEqDiff, e2]; try rfl), (by simp only [zfr, ↓reduceIte, Nat.reduceEqDiff, e11]; try rfl), (by simp only [zfr, ↓reduceIte, Nat.reduceEqDiff, e12]; try rfl), (by simp only [zfr, ↓reduceIte, Nat.reduceEqDiff]; try rfl), by omega, by omega, by rw [drop_next hda, drop_next hdb]; exact hc⟩
      · have g' : (cmpX x y != 0) = true := by rw [bne_iff_ne]; exact g
        rw [or2_n g] at hc
        rw [← hc]
        simp only [simB, zbo, Nat.reduceBEq, own0, ↓reduceIte, Nat.reduceEqDiff, Nat.reduceAdd, simL, simN, Nat.zero_add, simV, e0, e1, e2, e11, e12, e13, q1, q2, lenTk, ia, ib, ld, ldb, zeroT, st_Tt, stT_6, ldT_u, cc, g', f5]
        exact finish_i _ _ _ _ _ _ _ (by simp only [zfr, ↓reduceIte, Nat.reduceEqDiff]; try rfl) rfl
theorem tuplesX_eq (d : Nat) (us vs : List T) (ag bg : Gk) (ha : us.length ≤ 1000)
    (h : ∀ i j x y q r, us.drop i = x :: q → vs.drop j = y :: r → evalFn Tryz.prog cfg0 100000 (d+1) 96 [.tree (encT x), .tree (encT y)] = some (.tree (.int .i64 (cmpX x y)), [[], []])) :
    evalFn Tryz.prog cfg0 100000 (d+3) 128 [.tree (.sl (cellsK us) us.length (gr ag)), .tree (.sl (cellsK vs) vs.length (gr bg))] = some (.tree (.int .i64 (or2 (three us.length vs.length) (cmpXL us vs))), [[], []]) := by
  rw [evalFn_go _ Tryz.func128 (by unfold Tryz.f128; rfl) (by unfold Tryz.f128; decide) (Nat.le_of_ble_eq_true (by unfold Tryz.f128; rfl)) (by kernel_rfl)]
  have hf := cmpFX_eq (d+1) us vs ag bg ha h
  have isk : ∀ g : Gk, ∀ ks : List T, isTree (.sl (cellsK ks) ks.length (gr g)) = true := by intro g ks; cases g <;> rfl
  have c1 := fun D st => callA_trees (cfg := cfg0) (d := D) (s := st) (f := 145) (vs := [.sl (cellsK us) us.length (gr ag), .sl (cellsK vs) vs.length (gr bg), .fn 96 []]) (by simp only [List.all_cons, isk, Bool.true_and]; rfl) hf
  have c2 := fun D st => callA_trees (cfg := cfg0) (d := D) (s := st) (f := 123) (vs := [.int .i64 (us.length : Int), .int .i64 (vs.length : Int)]) rfl (cmpCI_eq 100000 d us.length vs.length)
  have c3 := fun D st x y => callA_trees (cfg := cfg0) (d := D) (s := st) (f := 127) (vs := [.sl [.int .i64 x, .int .i64 y] 2 .tight]) rfl (orI_eq 100000 (d+1) (by decide) x y .tight)
  simp only [simB, zbo, Nat.reduceBEq, own0, ↓reduceIte, Nat.reduceEqDiff, Nat.reduceAdd, simA, simL, lenTk, c1, c2, c3, opA_two33, two33_int]
  exact finish_i _ _ _ _ _ _ _ (by simp only [zfr, ↓reduceIte, Nat.reduceEqDiff]; try rfl) rfl
set_option maxHeartbeats 4000000 in
theorem tcmp_nil (m : Nat) (b0 : T) : evalFn Tryz.prog cfg0 100000 (m+9) 96 [.tree (encT nilT'), .tree (encT b0)] = some (.tree (.int .i64 (nilX b0)), [[], []]) := by
  rw [evalFn_go _ Tryz.func96 (by unfold Tryz.f96; rfl) (by unfold Tryz.f96; decide) (Nat.le_of_ble_eq_true (by unfold Tryz.f96; rfl)) (by kernel_rfl)]
  simp only [simB, zbo, Nat.reduceBEq, own0, ↓reduceIte, Nat.reduceEqDiff, Nat.reduceAdd, simA, simN, Nat.zero_add, encT, den_loop]
  refine loop_ends (X := Unit) (fun _ env s => env 2 = .ptr 2 1 0 ∧ env 3 = .ptr 3 1 0 ∧ s 2 = ⟨1, .buf (cellsT nilT')⟩ ∧ s 3 = ⟨1, .buf (cellsT b0)⟩) (fun _ => 0) (fun _ => (.tree (.int .i64 (nilX b0)), [[], []])) ?_ 100000 () _ _ (by omega) ⟨(by simp only [zfr, ↓reduceIte, Nat.reduceEqDiff]; try rfl), (by simp only [zfr, ↓reduceIte, Nat.reduceEqDiff]; try rfl), (by simp only [zfr, ↓reduceIte, Nat.reduceEqDiff]; try rfl), (by simp only [zfr, ↓reduceIte, Nat.reduceEqDiff]; try rfl)⟩
  rintro rd - hrd - env st ⟨e2, e3, j2, j3⟩
  obtain ⟨k', n2, lg', l', s', i2, kg', ks'⟩ := b0
  simp only [cellsT, nilT'] at j2 j3
  have r1 := callQ_trees (f := 124) (vs := [.int .i64 3]) rfl (trkX (m+6) 3)
  have r2 := callQ_trees (f := 124) (vs := [.int .i64 k']) rfl (trkX (m+6) k')
  have r3 := callQ_trees (f := 123) (vs := [.int .i64 (rkX 3), .int .i64 (rkX k')]) rfl (cmpCI_eq 100000 (m+6) (rkX 3) (rkX k'))
  simp only [nilX, kindT]
  by_cases g : three (rkX 3) (rkX k') = 0
  · have g' : (three (rkX 3) (rkX k') != 0) = false := by rw [g]; rfl
    rw [g]
    simp only [simB, zbo, Nat.reduceBEq, own0, ↓reduceIte, Nat.reduceEqDiff, Nat.reduceAdd, simL, simN, Nat.zero_add, e2, e3, j2, j3, faT_0, faT_1, faT_2, faT_4, ldT_0, ldT_1, ldT_2, ldT_4, i_eqlV, Int.reduceBEq, r1, r2, r3, g']
    exact finish_i _ _ _ _ _ _ _ (by simp only [zfr, ↓reduceIte, Nat.reduceEqDiff]; try rfl) rfl
  · have g' : (three (rkX 3) (rkX k') != 0) = true := by rw [bne_iff_ne]; exact g
    simp only [simB, zbo, Nat.reduceBEq, own0, ↓reduceIte, Nat.reduceEqDiff, Nat.reduceAdd, simL, simN, Nat.zero_add, e2, e3, j2, j3, faT_0, ldT_0, i_eqlV, Int.reduceBEq, r1, r2, r3, g']
    exact finish_i _ _ _ _ _ _ _ (by simp only [zfr, ↓reduceIte, Nat.reduceEqDiff]; try rfl) rfl
theorem getD_kid (ks : List T) (i : Nat) : ks.getD i nilT' = nilT' ∨ ∃ r, ks.drop i = ks.getD i nilT' :: r := by
  by_cases h : i < ks.length
  · right
    refine ⟨ks.drop (i + 1), ?_⟩
    rw [List.getD_eq_getElem?_getD, List.getElem?_eq_getElem h]
    exact List.drop_eq_getElem_cons h
  · left
    rw [List.getD_eq_getElem?_getD, List.getElem?_eq_none (by omega)]; rfl
def muX (t : T) : Nat := if kindT t = 4 then nodT t else 0
theorem mu_nil : muX nilT' = 0 := rfl
theorem mu_le (t : T) : muX t ≤ nodT t := by unfold muX; split <;> omega
theorem big_nil (R : Nat) (hR : 0 < R) : bigT R nilT' := by
  simp only [nilT', bigT, bigK, List.length_nil]
  exact ⟨(by intro x hx; cases hx), hR, trivial⟩
theorem kid_known (R : Nat) (hR : 0 < R) (ks : List T) (i : Nat) (hb : bigK R ks) : bigT R (ks.getD i nilT') ∧ muX (ks.getD i nilT') ≤ nodK ks ∧ nodT (ks.getD i nilT') ≤ nodK ks + 1 ∧ htT (ks.getD i nilT') ≤ max 1 (htK ks) := by
  rcases getD_kid ks i with h | ⟨r, h⟩
  · rw [h]
    refine ⟨big_nil R hR, ?_, ?_, ?_⟩
    · rw [mu_nil]; omega
    · show 1 ≤ _; omega
    · show 1 ≤ _; omega
  · have h1 := kids_nod ks i _ r h
    have h2 := kids_ht ks i _ r h
    have := mu_le (ks.getD i nilT')
    exact ⟨bigK_at R ks i _ r h hb, by omega, by omega, by omega⟩
set_option maxHeartbeats 32000000 in
theorem tcmpX_eq : ∀ (d D : Nat) (a0 b0 : T), htT a0 ≤ d → 3 * d + 9 ≤ D → nodT a0 ≤ 1000 → bigT 9223372036854775808 a0 → bigT 9223372036854775808 b0 →
    evalFn Tryz.prog cfg0 100000 D 96 [.tree (encT a0), .tree (encT b0)] = some (.tree (.int .i64 (cmpX a0 b0)), [[], []])
  | 0, _, a0, b0, hd, _, hn, ha, hb => by obtain ⟨k, b, lg, l, s, m, kg, ks⟩ := a0; simp only [htT] at hd; omega
  | d + 1, D, a0, b0, hd, hD, hn, ha, hb => by
    obtain ⟨m, rfl⟩ : ∃ m, D = m + 12 := ⟨D - 12, by omega⟩
    have IH := fun D h a b h1 h2 h3 h4 => tcmpX_eq d D a b h1 h h2 h3 h4
    rw [evalFn_go _ Tryz.func96 (by unfold Tryz.f96; rfl) (by unfold Tryz.f96; decide) (Nat.le_of_ble_eq_true (by unfold Tryz.f96; rfl)) (by kernel_rfl)]
    simp only [simB, zbo, Nat.reduceBEq, own0, ↓reduceIte, Nat.reduceEqDiff, Nat.reduceAdd, simA, simN, Nat.zero_add, encT, den_loop]
    refine loop_ends (X := T × T) (fun x env s => env 2 = .ptr 2 1 0 ∧ env 3 = .ptr 3 1 0 ∧ s 2 = ⟨1, .buf (cellsT x.1)⟩ ∧ s 3 = ⟨1, .buf (cellsT x.2)⟩ ∧ htT x.1 ≤ d + 1 ∧ nodT x.1 ≤ 1000 ∧ bigT 9223372036854775808 x.1 ∧ bigT 9223372036854775808 x.2) (fun x => muX x.1) (fun x => (.tree (.int .i64 (cmpX x.1 x.2)), [[], []])) ?_ 100000 (a0, b0) _ _ (by have := mu_le a0; simp only; omega) ⟨(by simp only [zfr, ↓reduceIte, Nat.reduceEqDiff]; try rfl), (by simp only [zfr, ↓reduceIte, Nat.reduceEqDiff]; try rfl), (by simp only [zfr, ↓reduceIte, Nat.reduceEqDiff]; try rfl), (by simp only [zfr, ↓reduceIte, Nat.reduceEqDiff]; try rfl), hd, hn, ha, hb⟩
    rintro rd ⟨a, b⟩ hrd ih env st ⟨e2, e3, j2, j3, hht, hnod, hga, hgb⟩
    simp only at j2 j3 hht hnod hga hgb
    obtain ⟨k, n1, lg, l, s, i1, kg, ks⟩ := a
    obtain ⟨k', n2, lg', l', s', i2, kg', ks'⟩ := b
    have ga := hga
    have gb := hgb
    simp only [bigT] at ga gb
    simp only [cellsT] at j2 j3
    by_cases h4 : k = 4 ∧ k' = 4
    · obtain ⟨rfl, rfl⟩ := h4
      have hhk : htK ks ≤ d := by simp only [htT] at hht; omega
      have hnk : nodK ks + 1 = nodT (.mk 4 n1 lg l s i1 kg ks) := by simp only [nodT]
      have hmu : muX (.mk 4 n1 lg l s i1 kg ks) = nodT (.mk 4 n1 lg l s i1 kg ks) := rfl
      have hc := cmpX_4 n1 lg l s i1 kg ks (.mk 4 n2 lg' l' s' i2 kg' ks') rfl
      simp only [kidsT] at hc
      have hq : ((4 : Int) == 4) = true := rfl
      have q0 := kid_known 9223372036854775808 (by decide) ks 0 ga.2.2
      have q1 := kid_known 9223372036854775808 (by decide) ks 1 ga.2.2
      have p0 := kid_known 9223372036854775808 (by decide) ks' 0 gb.2.2
      have p1 := kid_known 9223372036854775808 (by decide) ks' 1 gb.2.2
      have k1 := callQ_trees (f := 122) (vs := [encT (.mk 4 n1 lg l s i1 kg ks), .int .i64 0]) rfl (kidX_eq 100000 (m+10) 4 n1 lg l s i1 kg ks 0)
      have k2 := callQ_trees (f := 122) (vs := [encT (.mk 4 n1 lg l s i1 kg ks), .int .i64 1]) rfl (kidX_eq 100000 (m+10) 4 n1 lg l s i1 kg ks 1)
      have k3 := callQ_trees (f := 122) (vs := [encT (.mk 4 n2 lg' l' s' i2 kg' ks'), .int .i64 0]) rfl (kidX_eq 100000 (m+10) 4 n2 lg' l' s' i2 kg' ks' 0)
      have k4 := callQ_trees (f := 122) (vs := [encT (.mk 4 n2 lg' l' s' i2 kg' ks'), .int .i64 1]) rfl (kidX_eq 100000 (m+10) 4 n2 lg' l' s' i2 kg' ks' 1)
      have hh : evalFn Tryz.prog cfg0 100000 (m+11) 96 [.tree (encT (ks.getD 0 nilT')), .tree (encT (ks'.getD 0 nilT'))] = some (.tree (.int .i64 (cmpX (ks.getD 0 nilT') (ks'.getD 0 nilT'))), [[], []]) := by
        rcases getD_kid ks 0 with h | ⟨r, h⟩
        · rw [h, cmpX_nil]; exact tcmp_nil (m+2) _
        · have := kids_ht ks 0 _ r h
          exact IH (m+11) (by omega) _ _ (by omega) (by omega) q0.1 p0.1
      generalize ks.getD 0 nilT' = x at hc q0 k1 hh
      generalize ks.getD 1 nilT' = y at hc q1 k2
      generalize ks'.getD 0 nilT' = x' at hc p0 k3 hh
      generalize ks'.getD 1 nilT' = y' at hc p1 k4
      have k5 := callQ_trees (f := 96) (vs := [encT x, encT x']) rfl hh
      simp only [encT, cellsT] at k1 k2 k3 k4 k5 j2 j3
      by_cases g : cmpX x x' = 0
      · have g' : (cmpX x x' != 0) = false := by rw [g]; rfl
        rw [or2_0 g] at hc
        simp only [simB, zbo, Nat.reduceBEq, own0, ↓reduceIte, Nat.reduceEqDiff, Nat.reduceAdd, simL, simN, Nat.zero_add, e2, e3, j2, j3, faT_0, ldT_0, ldT_a, i_eqlV, hq, k1, k2, k3, k4, k5, g', st_Tt, stT_6, stT_u]
        exact ih (y, y') _ _ (by simp only; omega) (by simp only [hc]) ⟨(by simp only [zfr, ↓reduceIte, Nat.reduceEqDiff, e2]; try rfl), (by simp only [zfr, ↓reduceIte, Nat.reduceEqDiff, e3]; try rfl), (by simp only [zfr, ↓reduceIte, Nat.reduceEqDiff]; try rfl), (by simp only [zfr, ↓reduceIte, Nat.reduceEqDiff]; try rfl), by simp only; omega, by simp only; omega, q1.1, p1.1⟩
      · have g' : (cmpX x x' != 0) = true := by rw [bne_iff_ne]; exact g
        rw [or2_n g] at hc
        simp only [hc]
        simp only [simB, zbo, Nat.reduceBEq, own0, ↓reduceIte, Nat.reduceEqDiff, Nat.reduceAdd, simL, simN, Nat.zero_add, e2, e3, j2, j3, faT_0, ldT_0, ldT_a, i_eqlV, hq, k1, k2, k3, k4, k5, g', st_Tt, stT_6, stT_u]
        exact finish_i _ _ _ _ _ _ _ (by simp only [zfr, ↓reduceIte, Nat.reduceEqDiff]; try rfl) rfl
    · have hc := cmpX_no k n1 lg l s i1 kg ks (.mk k' n2 lg' l' s' i2 kg' ks') h4
      simp only [kindT, kidsT, strT, numT, nT] at hc
      have r1 := callQ_trees (f := 124) (vs := [.int .i64 k]) rfl (trkX (m+9) k)
      have r2 := callQ_trees (f := 124) (vs := [.int .i64 k']) rfl (trkX (m+9) k')
      have r3 := callQ_trees (f := 123) (vs := [.int .i64 (rkX k), .int .i64 (rkX k')]) rfl (cmpCI_eq 100000 (m+9) (rkX k) (rkX k'))
      have c1 := fun D st => callA_trees (cfg := cfg0) (d := D) (s := st) (f := 125) (vs := [encA n1 lg l, encA n2 lg' l']) (by cases lg <;> cases lg' <;> rfl) (ncmp_eq 100000 (m+7) (by decide) (isN_A n1 lg l ga.1) (isN_A n2 lg' l' gb.1))
      have c2 := fun D st => callA_trees (cfg := cfg0) (d := D) (s := st) (f := 126) (vs := [.str s, .str s']) rfl (cmpCS_eq 100000 (m+9) s s')
      have c2q := callQ_trees (f := 126) (vs := [.str s, .str s']) rfl (cmpCS_eq 100000 (m+9) s s')
      have c4 := fun D st => callA_trees (cfg := cfg0) (d := D) (s := st) (f := 123) (vs := [.int .i64 i1, .int .i64 i2]) rfl (cmpCI_eq 100000 (m+9) i1 i2)
      have c4q := callQ_trees (f := 123) (vs := [.int .i64 i1, .int .i64 i2]) rfl (cmpCI_eq 100000 (m+9) i1 i2)
      have c5 := fun x y => callQ_trees (f := 127) (vs := [.sl [.int .i64 x, .int .i64 y] 2 .tight]) rfl (orI_eq 100000 (m+10) (by decide) x y .tight)
      simp only [encA] at c1
      by_cases g : three (rkX k) (rkX k') = 0
      · have g' : (three (rkX k) (rkX k') != 0) = false := by rw [g]; rfl
        rw [or2_0 g] at hc
        simp only [hc]
        rcases rkX_eq k k' g with hkk | ⟨o1, o2⟩
        · subst hkk
          have k4 : k ≠ 4 := fun e => h4 ⟨e, e⟩
          have b4 : (k == 4) = false := beq_eq_false_iff_ne.mpr k4
          have isk : ∀ g : Gk, ∀ ks : List T, isTree (.sl (cellsK ks) ks.length (gr g)) = true := by intro g ks; cases g <;> rfl
          have hhk : htK ks ≤ d := by simp only [htT] at hht; omega
          have hnk : nodK ks ≤ 999 := by simp only [nodT] at hnod; omega
          have hkl : ks.length ≤ 1000 := by have := nodK_len ks; omega
          have ht := tuplesX_eq (m+8) ks ks' kg kg' hkl (fun i j x y q r h1 h2 => IH (m+9) (by omega) x y (by have := kids_ht ks i x q h1; omega) (by have := kids_nod ks i x q h1; omega) (bigK_at _ ks i x q h1 ga.2.2) (bigK_at _ ks' j y r h2 gb.2.2))
          have c3 := fun D st => callA_trees (cfg := cfg0) (d := D) (s := st) (f := 128) (vs := [.sl (cellsK ks) ks.length (gr kg), .sl (cellsK ks') ks'.length (gr kg')]) (by simp only [List.all_cons, isk, Bool.true_and]; rfl) ht
          have c3q := callQ_trees (f := 128) (vs := [.sl (cellsK ks) ks.length (gr kg), .sl (cellsK ks') ks'.length (gr kg')]) (by simp only [List.all_cons, isk, Bool.true_and]; rfl) ht
          have cc : k = 1 ∨ k = 2 ∨ k = 6 ∨ k = 5 ∨ k = 7 ∨ k = 8 ∨ k = 9 ∨ (k ≠ 1 ∧ k ≠ 2 ∧ k ≠ 6 ∧ k ≠ 5 ∧ k ≠ 7 ∧ k ≠ 8 ∧ k ≠ 9) := by omega
          rcases cc with rfl | rfl | rfl | rfl | rfl | rfl | rfl | ⟨x1, x2, x6, x5, x7, x8, x9⟩
          · simp only [simB, zbo, Nat.reduceBEq, own0, ↓reduceIte, Nat.reduceEqDiff, Nat.reduceAdd, simL, simN, Nat.zero_add, e2, e3, j2, j3, faT_0, faT_1, faT_2, faT_3, faT_4, ldT_0, ldT_1, ldT_2, ldT_3, ldT_4, Nat.reduceAdd, i_eqlV, b4, Int.reduceBEq, Int.reduceEq, true_or, or_true, false_or, or_false, ↓reduceIte, r1, r2, r3, g', c1]
            exact finish_i _ _ _ _ _ _ _ (by simp only [zfr, ↓reduceIte, Nat.reduceEqDiff]; try rfl) rfl
          · simp only [simB, zbo, Nat.reduceBEq, own0, ↓reduceIte, Nat.reduceEqDiff, Nat.reduceAdd, simL, simN, Nat.zero_add, e2, e3, j2, j3, faT_0, faT_1, faT_2, faT_3, faT_4, ldT_0, ldT_1, ldT_2, ldT_3, ldT_4, Nat.reduceAdd, i_eqlV, b4, Int.reduceBEq, Int.reduceEq, true_or, or_true, false_or, or_false, ↓reduceIte, r1, r2, r3, g', c2]
            exact finish_i _ _ _ _ _ _ _ (by simp only [zfr, ↓reduceIte, Nat.reduceEqDiff]; try rfl) rfl
          · simp only [simB, zbo, Nat.reduceBEq, own0, ↓reduceIte, Nat.reduceEqDiff, Nat.reduceAdd, simL, simN, Nat.zero_add, e2, e3, j2, j3, faT_0, faT_1, faT_2, faT_3, faT_4, ldT_0, ldT_1, ldT_2, ldT_3, ldT_4, Nat.reduceAdd, i_eqlV, b4, Int.reduceBEq, Int.reduceEq, true_or, or_true, false_or, or_false, ↓reduceIte, r1, r2, r3, g', c2]
            exact finish_i _ _ _ _ _ _ _ (by simp only [zfr, ↓reduceIte, Nat.reduceEqDiff]; try rfl) rfl
          · simp only [simB, zbo, Nat.reduceBEq, own0, ↓reduceIte, Nat.reduceEqDiff, Nat.reduceAdd, simL, simN, Nat.zero_add, e2, e3, j2, j3, faT_0, faT_1, faT_2, faT_3, faT_4, ldT_0, ldT_1, ldT_2, ldT_3, ldT_4, Nat.reduceAdd, i_eqlV, b4, Int.reduceBEq, Int.reduceEq, true_or, or_true, false_or, or_false, ↓reduceIte, r1, r2, r3, g', c3]
            exact finish_i _ _ _ _ _ _ _ (by simp only [zfr, ↓reduceIte, Nat.reduceEqDiff]; try rfl) rfl
          · simp only [simB, zbo, Nat.reduceBEq, own0, ↓reduceIte, Nat.reduceEqDiff, Nat.reduceAdd, simL, simN, Nat.zero_add, e2, e3, j2, j3, faT_0, faT_1, faT_2, faT_3, faT_4, ldT_0, ldT_1, ldT_2, ldT_3, ldT_4, Nat.reduceAdd, i_eqlV, b4, Int.reduceBEq, Int.reduceEq, true_or, or_true, false_or, or_false, ↓reduceIte, r1, r2, r3, g', c3q, c4q, c5, opA_two33, two33_int]
            exact finish_i _ _ _ _ _ _ _ (by simp only [zfr, ↓reduceIte, Nat.reduceEqDiff]; try rfl) rfl
          · simp only [simB, zbo, Nat.reduceBEq, own0, ↓reduceIte, Nat.reduceEqDiff, Nat.reduceAdd, simL, simN, Nat.zero_add, e2, e3, j2, j3, faT_0, faT_1, faT_2, faT_3, faT_4, ldT_0, ldT_1, ldT_2, ldT_3, ldT_4, Nat.reduceAdd, i_eqlV, b4, Int.reduceBEq, Int.reduceEq, true_or, or_true, false_or, or_false, ↓reduceIte, r1, r2, r3, g', c2q, c4q, c5, opA_two33, two33_int]
            exact finish_i _ _ _ _ _ _ _ (by simp only [zfr, ↓reduceIte, Nat.reduceEqDiff]; try rfl) rfl
          · simp only [simB, zbo, Nat.reduceBEq, own0, ↓reduceIte, Nat.reduceEqDiff, Nat.reduceAdd, simL, simN, Nat.zero_add, e2, e3, j2, j3, faT_0, faT_1, faT_2, faT_3, faT_4, ldT_0, ldT_1, ldT_2, ldT_3, ldT_4, Nat.reduceAdd, i_eqlV, b4, Int.reduceBEq, Int.reduceEq, true_or, or_true, false_or, or_false, ↓reduceIte, r1, r2, r3, g', c4]
            exact finish_i _ _ _ _ _ _ _ (by simp only [zfr, ↓reduceIte, Nat.reduceEqDiff]; try rfl) rfl
          · have b1 : (k == 1) = false := beq_eq_false_iff_ne.mpr x1
            have b2 : (k == 2) = false := beq_eq_false_iff_ne.mpr x2
            have b6 : (k == 6) = false := beq_eq_false_iff_ne.mpr x6
            have b5 : (k == 5) = false := beq_eq_false_iff_ne.mpr x5
            have b7 : (k == 7) = false := beq_eq_false_iff_ne.mpr x7
            have b8 : (k == 8) = false := beq_eq_false_iff_ne.mpr x8
            have b9 : (k == 9) = false := beq_eq_false_iff_ne.mpr x9
            rw [if_neg x1, if_neg (by omega), if_neg x7, if_neg x5, if_neg x8, if_neg x9]
            simp only [simB, zbo, Nat.reduceBEq, own0, ↓reduceIte, Nat.reduceEqDiff, Nat.reduceAdd, simL, simN, Nat.zero_add, e2, e3, j2, j3, faT_0, ldT_0, i_eqlV, b4, b1, b2, b5, b6, b7, b8, b9, r1, r2, r3, g']
            exact finish_i _ _ _ _ _ _ _ (by simp only [zfr, ↓reduceIte, Nat.reduceEqDiff]; try rfl) rfl
        · have b1 : (k == 1) = false := beq_eq_false_iff_ne.mpr (by omega)
          have b2 : (k == 2) = false := beq_eq_false_iff_ne.mpr (by omega)
          have b6 : (k == 6) = false := beq_eq_false_iff_ne.mpr (by omega)
          have b5 : (k == 5) = false := beq_eq_false_iff_ne.mpr (by omega)
          have b7 : (k == 7) = false := beq_eq_false_iff_ne.mpr (by omega)
          have b8 : (k == 8) = false := beq_eq_false_iff_ne.mpr (by omega)
          have b9 : (k == 9) = false := beq_eq_false_iff_ne.mpr (by omega)
          have b4 : (k == 4) = false := beq_eq_false_iff_ne.mpr (by omega)
          rw [if_neg (by omega), if_neg (by omega), if_neg (by omega), if_neg (by omega), if_neg (by omega), if_neg (by omega)]
          simp only [simB, zbo, Nat.reduceBEq, own0, ↓reduceIte, Nat.reduceEqDiff, Nat.reduceAdd, simL, simN, Nat.zero_add, e2, e3, j2, j3, faT_0, ldT_0, i_eqlV, b4, b1, b2, b5, b6, b7, b8, b9, r1, r2, r3, g']
          exact finish_i _ _ _ _ _ _ _ (by simp only [zfr, ↓reduceIte, Nat.reduceEqDiff]; try rfl) rfl
      · have g' : (three (rkX k) (rkX k') != 0) = true := by rw [bne_iff_ne]; exact g
        rw [or2_n g] at hc
        simp only [hc]
        by_cases k4 : k = 4
        · have b4 : (k == 4) = true := by rw [k4]; rfl
          have b5 : (k' == 4) = false := beq_eq_false_iff_ne.mpr fun e => h4 ⟨k4, e⟩
          simp only [simB, zbo, Nat.reduceBEq, own0, ↓reduceIte, Nat.reduceEqDiff, Nat.reduceAdd, simL, simN, Nat.zero_add, e2, e3, j2, j3, faT_0, ldT_0, i_eqlV, b4, b5, r1, r2, r3, g']
          exact finish_i _ _ _ _ _ _ _ (by simp only [zfr, ↓reduceIte, Nat.reduceEqDiff]; try rfl) rfl
        · have b4 : (k == 4) = false := beq_eq_false_iff_ne.mpr k4
          simp only [simB, zbo, Nat.reduceBEq, own0, ↓reduceIte, Nat.reduceEqDiff, Nat.reduceAdd, simL, simN, Nat.zero_add, e2, e3, j2, j3, faT_0, ldT_0, i_eqlV, b4, r1, r2, r3, g']
          exact finish_i _ _ _ _ _ _ _ (by simp only [zfr, ↓reduceIte, Nat.reduceEqDiff]; try rfl) rfl
end Go.Ab

/- relictref03.Cmp of any terms. Conditions: limbs in range; so many nodes at most. -/
namespace Go.Ab
open Go.Proofs
set_option maxRecDepth 100000
set_option linter.unusedSimpArgs false

set_option maxHeartbeats 4000000 in
theorem rcmp_nil (m : Nat) (b0 : T) : evalFn Tryz.prog cfg0 100000 (m+7) 19 [.tree (encT nilT'), .tree (encT b0)] = some (.tree (.int .i64 (nilX b0)), [[], []]) := by
  rw [evalFn_go _ Tryz.func19 (by unfold Tryz.f19; rfl) (by unfold Tryz.f19; decide) (Nat.le_of_ble_eq_true (by unfold Tryz.f19; rfl)) (by kernel_rfl)]
  obtain ⟨k', n2, lg', l', s', i2, kg', ks'⟩ := b0
  have r1 := callQ_trees (f := 45) (vs := [.int .i64 3]) rfl (rrkX (m + 4) 3)
  have r2 := callQ_trees (f := 45) (vs := [.int .i64 k']) rfl (rrkX (m + 4) k')
  have r3 := callQ_trees (f := 44) (vs := [.int .i64 (rkX 3 + 1), .int .i64 (rkX k' + 1)]) rfl (rthree_eq 100000 (m + 5) _ _)
  rw [three_up] at r3
  simp only [nilX, kindT]
  by_cases g : three (rkX 3) (rkX k') = 0
  · have g' : (three (rkX 3) (rkX k') != 0) = false := by rw [g]; rfl
    rw [g]
    simp only [simB, zbo, Nat.reduceBEq, own0, ↓reduceIte, Nat.reduceEqDiff, Nat.reduceAdd, simA, simL, simN, Nat.zero_add, nilT', encT, cellsT, faT_0, ldT_0, r1, r2, r3, i_neqV, i_eqlV, Int.reduceBEq, g']
    exact finish_i _ _ _ _ _ _ _ (by simp only [zfr, ↓reduceIte, Nat.reduceEqDiff]; try rfl) rfl
  · have g' : (three (rkX 3) (rkX k') != 0) = true := by rw [bne_iff_ne]; exact g
    simp only [simB, zbo, Nat.reduceBEq, own0, ↓reduceIte, Nat.reduceEqDiff, Nat.reduceAdd, simA, simL, simN, Nat.zero_add, nilT', encT, cellsT, faT_0, ldT_0, r1, r2, r3, i_neqV, g']
    exact finish_i _ _ _ _ _ _ _ (by simp only [zfr, ↓reduceIte, Nat.reduceEqDiff]; try rfl) rfl
set_option maxHeartbeats 32000000 in
theorem rcmpX_eq : ∀ (d D : Nat) (a0 b0 : T), htT a0 ≤ d → d + 9 ≤ D → nodT a0 ≤ 1000 → bigT 9223372036854775808 a0 → bigT 9223372036854775808 b0 →
    evalFn Tryz.prog cfg0 100000 D 19 [.tree (encT a0), .tree (encT b0)] = some (.tree (.int .i64 (cmpX a0 b0)), [[], []])
  | 0, _, a0, b0, hd, _, _, _, _ => by obtain ⟨k, b, lg, l, s, m, kg, ks⟩ := a0; simp only [htT] at hd; omega
  | d + 1, D, a0, b0, hd, hD, hn, ga, gb => by
    obtain ⟨m, rfl⟩ : ∃ m, D = m + 10 := ⟨D - 10, by omega⟩
    have IH := fun a b h1 h2 h3 h4 => rcmpX_eq d (m + 9) a b h1 (by omega) h2 h3 h4
    rw [evalFn_go _ Tryz.func19 (by unfold Tryz.f19; rfl) (by unfold Tryz.f19; decide) (Nat.le_of_ble_eq_true (by unfold Tryz.f19; rfl)) (by kernel_rfl)]
    obtain ⟨k, n1, lg, l, s, i1, kg, ks⟩ := a0
    obtain ⟨k', n2, lg', l', s', i2, kg', ks'⟩ := b0
    simp only [bigT] at ga gb
    have hhk : htK ks ≤ d := by simp only [htT] at hd; omega
    have hnk : nodK ks ≤ 999 := by simp only [nodT] at hn; omega
    have hkl : ks.length ≤ 999 := by have := nodK_len ks; omega
    have r1 := callQ_trees (f := 45) (vs := [.int .i64 k]) rfl (rrkX (m + 7) k)
    have r2 := callQ_trees (f := 45) (vs := [.int .i64 k']) rfl (rrkX (m + 7) k')
    have r3 := callQ_trees (f := 44) (vs := [.int .i64 (rkX k + 1), .int .i64 (rkX k' + 1)]) rfl (rthree_eq 100000 (m + 8) _ _)
    rw [three_up] at r3
    have t3 := fun x y D st => callA_trees (cfg := cfg0) (d := D) (s := st) (f := 44) (vs := [.int .i64 x, .int .i64 y]) rfl (rthree_eq 100000 (m + 8) x y)
    have tx := fun D st => callA_trees (cfg := cfg0) (d := D) (s := st) (f := 47) (vs := [.str s, .str s']) rfl (rtext3_eq 100000 (m + 8) s s')
    have p1 : ((0 : Int) != 0) = false := rfl
    by_cases z0 : three (rkX k) (rkX k') = 0
    case neg =>
      have p2 : (three (rkX k) (rkX k') != 0) = true := by rw [bne_iff_ne]; exact z0
      have h44 : ¬ (k = 4 ∧ kindT (.mk k' n2 lg' l' s' i2 kg' ks') = 4) := fun h => z0 (by rw [h.1, show k' = 4 from h.2]; rfl)
      rw [cmpX_no k n1 lg l s i1 kg ks _ h44]
      simp only [kindT]
      rw [or2_n z0]
      simp only [simB, zbo, Nat.reduceBEq, own0, ↓reduceIte, Nat.reduceEqDiff, Nat.reduceAdd, simA, simL, simN, Nat.zero_add, encT, cellsT, faT_0, ldT_0, r1, r2, r3, i_neqV, p2]
      exact finish_i _ _ _ _ _ _ _ (by simp only [zfr, ↓reduceIte, Nat.reduceEqDiff]; try rfl) rfl
    rw [z0] at r3
    rcases rkX_eq k k' z0 with hkk | ⟨o1, o2⟩
    rotate_left
    · have b1 : (k == 1) = false := beq_eq_false_iff_ne.mpr (by omega)
      have b2 : (k == 2) = false := beq_eq_false_iff_ne.mpr (by omega)
      have b6 : (k == 6) = false := beq_eq_false_iff_ne.mpr (by omega)
      have b5 : (k == 5) = false := beq_eq_false_iff_ne.mpr (by omega)
      have b7 : (k == 7) = false := beq_eq_false_iff_ne.mpr (by omega)
      have b8 : (k == 8) = false := beq_eq_false_iff_ne.mpr (by omega)
      have b9 : (k == 9) = false := beq_eq_false_iff_ne.mpr (by omega)
      have b4 : (k == 4) = false := beq_eq_false_iff_ne.mpr (by omega)
      rw [cmpX_no k n1 lg l s i1 kg ks _ (by omega)]
      simp only [kindT]
      rw [or2_0 z0, if_neg (by omega), if_neg (by omega), if_neg (by omega), if_neg (by omega), if_neg (by omega), if_neg (by omega)]
      simp only [simB, zbo, Nat.reduceBEq, own0, ↓reduceIte, Nat.reduceEqDiff, Nat.reduceAdd, simA, simL, simN, Nat.zero_add, encT, cellsT, faT_0, ldT_0, r1, r2, r3, i_neqV, i_eqlV, p1, b1, b2, b4, b5, b6, b7, b8, b9]
      exact finish_i _ _ _ _ _ _ _ (by simp only [zfr, ↓reduceIte, Nat.reduceEqDiff]; try rfl) rfl
    subst hkk
    by_cases k4 : k = 4
    · subst k4
      have hc := cmpX_4 n1 lg l s i1 kg ks (.mk 4 n2 lg' l' s' i2 kg' ks') rfl
      simp only [kidsT] at hc
      rw [hc]
      have q0 := kid_known 9223372036854775808 (by decide) ks 0 ga.2.2
      have q1 := kid_known 9223372036854775808 (by decide) ks 1 ga.2.2
      have p0' := kid_known 9223372036854775808 (by decide) ks' 0 gb.2.2
      have p1' := kid_known 9223372036854775808 (by decide) ks' 1 gb.2.2
      have pa0 := callQ_trees (f := 48) (vs := [encT (.mk 4 n1 lg l s i1 kg ks), .int .i64 ((0 : Nat) : Int)]) rfl (partX_eq 100000 (m + 8) 4 n1 lg l s i1 kg ks 0)
      have pa1 := callQ_trees (f := 48) (vs := [encT (.mk 4 n1 lg l s i1 kg ks), .int .i64 ((1 : Nat) : Int)]) rfl (partX_eq 100000 (m + 8) 4 n1 lg l s i1 kg ks 1)
      have pb0 := callQ_trees (f := 48) (vs := [encT (.mk 4 n2 lg' l' s' i2 kg' ks'), .int .i64 ((0 : Nat) : Int)]) rfl (partX_eq 100000 (m + 8) 4 n2 lg' l' s' i2 kg' ks' 0)
      have pb1 := callQ_trees (f := 48) (vs := [encT (.mk 4 n2 lg' l' s' i2 kg' ks'), .int .i64 ((1 : Nat) : Int)]) rfl (partX_eq 100000 (m + 8) 4 n2 lg' l' s' i2 kg' ks' 1)
      have hh : ∀ i, evalFn Tryz.prog cfg0 100000 (m+9) 19 [.tree (encT (ks.getD i nilT')), .tree (encT (ks'.getD i nilT'))] = some (.tree (.int .i64 (cmpX (ks.getD i nilT') (ks'.getD i nilT'))), [[], []]) := fun i => by
        have qi := kid_known 9223372036854775808 (by decide) ks i ga.2.2
        have pi := kid_known 9223372036854775808 (by decide) ks' i gb.2.2
        rcases getD_kid ks i with h | ⟨r, h⟩
        · rw [h, cmpX_nil]; exact rcmp_nil (m+2) _
        · have := kids_ht ks i _ r h
          exact IH _ _ (by omega) (by omega) qi.1 pi.1
      have h0 := hh 0
      have h1 := hh 1
      clear hh
      generalize ks.getD 0 nilT' = x at q0 pa0 h0
      generalize ks.getD 1 nilT' = y at q1 pa1 h1
      generalize ks'.getD 0 nilT' = x' at p0' pb0 h0
      generalize ks'.getD 1 nilT' = y' at p1' pb1 h1
      have ca := callQ_trees (f := 19) (vs := [encT x, encT x']) rfl h0
      have cb := callQ_trees (f := 19) (vs := [encT y, encT y']) rfl h1
      simp only [encT] at ca cb
      simp only [encT, cellsT] at pa0 pa1 pb0 pb1
      simp only [simB, zbo, Nat.reduceBEq, own0, ↓reduceIte, Nat.reduceEqDiff, Nat.reduceAdd, simA, simL, simN, Nat.zero_add, encT, cellsT, faT_0, ldT_0, Nat.reduceAdd, r1, r2, r3, i_neqV, i_eqlV, Int.reduceBEq, p1, den_loop]
      refine loop_ends (X := Nat) (fun i env st => env 2 = .ptr 2 1 0 ∧ env 3 = .ptr 3 1 0 ∧ st 2 = ⟨1, .buf (cellsT (.mk 4 n1 lg l s i1 kg ks))⟩ ∧ st 3 = ⟨1, .buf (cellsT (.mk 4 n2 lg' l' s' i2 kg' ks'))⟩ ∧ env 11 = .int .i64 (i : Int) ∧ (i = 0 ∨ (i = 1 ∧ cmpX x x' = 0) ∨ (i = 2 ∧ cmpX x x' = 0 ∧ cmpX y y' = 0))) (fun i => 3 - i) (fun _ => (.tree (.int .i64 (or2 (cmpX x x') (cmpX y y'))), [[], []])) ?_ 100000 0 _ _ (by omega) ⟨(by simp only [zfr, ↓reduceIte, Nat.reduceEqDiff]; try rfl), (by simp only [zfr, ↓reduceIte, Nat.reduceEqDiff]; try rfl), (by simp only [zfr, ↓reduceIte, Nat.reduceEqDiff]; try rfl), (by simp only [zfr, ↓reduceIte, Nat.reduceEqDiff]; try rfl), (by simp only [zfr, ↓reduceIte, Nat.reduceEqDiff]; try rfl), .inl rfl⟩
      intro rr i hx ih env st ⟨e2, e3, j2, j3, e11, hc⟩
      simp only [cellsT] at j2 j3
      rcases hc with rfl | ⟨rfl, z⟩ | ⟨rfl, z, z2⟩
      · have q1 : ((0 : Nat) : Int) < 2 := by decide
        have f5 := i_add Tryz.prog 3 ((0 : Nat) : Int) 1 (by omega) (by omega)
        by_cases z : cmpX x x' = 0
        · rw [z] at ca
          simp only [simB, zbo, Nat.reduceBEq, own0, ↓reduceIte, Nat.reduceEqDiff, Nat.reduceAdd, simL, simN, Nat.zero_add, e2, e3, j2, j3, e11, ldT_a, q1, pa0, pb0, ca, i_neqV, p1, f5]
          exact ih 1 _ _ (by omega) rfl ⟨(by simp only [zfr, ↓reduceIte, Nat.reduceEqDiff, e2]; try rfl), (by simp only [zfr, ↓reduceIte, Nat.reduceEqDiff, e3]; try rfl), by simp only [cellsT]; exact j2, by simp only [cellsT]; exact j3, (by simp only [zfr, ↓reduceIte, Nat.reduceEqDiff]; try rfl), .inr (.inl ⟨rfl, z⟩)⟩
        · have p3 : (cmpX x x' != 0) = true := by rw [bne_iff_ne]; exact z
          rw [or2_n z]
          simp only [simB, zbo, Nat.reduceBEq, own0, ↓reduceIte, Nat.reduceEqDiff, Nat.reduceAdd, simL, simN, Nat.zero_add, e2, e3, j2, j3, e11, ldT_a, q1, pa0, pb0, ca, i_neqV, p3]
          exact finish_i _ _ _ _ _ _ _ (by simp only [zfr, ↓reduceIte, Nat.reduceEqDiff]; try rfl) rfl
      · have q1 : ((1 : Nat) : Int) < 2 := by decide
        have f5 := i_add Tryz.prog 3 ((1 : Nat) : Int) 1 (by omega) (by omega)
        rw [or2_0 z] at ih ⊢
        by_cases z2 : cmpX y y' = 0
        · rw [z2] at cb
          simp only [simB, zbo, Nat.reduceBEq, own0, ↓reduceIte, Nat.reduceEqDiff, Nat.reduceAdd, simL, simN, Nat.zero_add, e2, e3, j2, j3, e11, ldT_a, q1, pa1, pb1, cb, i_neqV, p1, f5]
          exact ih 2 _ _ (by omega) rfl ⟨(by simp only [zfr, ↓reduceIte, Nat.reduceEqDiff, e2]; try rfl), (by simp only [zfr, ↓reduceIte, Nat.reduceEqDiff, e3]; try rfl), by simp only [cellsT]; exact j2, by simp only [cellsT]; exact j3, (by simp only [zfr, ↓reduceIte, Nat.reduceEqDiff]; try rfl), .inr (.inr ⟨rfl, z, z2⟩)⟩
        · have p3 : (cmpX y y' != 0) = true := by rw [bne_iff_ne]; exact z2
          simp only [simB, zbo, Nat.reduceBEq, own0, ↓reduceIte, Nat.reduceEqDiff, Nat.reduceAdd, simL, simN, Nat.zero_add, e2, e3, j2, j3, e11, ldT_a, q1, pa1, pb1, cb, i_neqV, p3]
          exact finish_i _ _ _ _ _ _ _ (by simp only [zfr, ↓reduceIte, Nat.reduceEqDiff]; try rfl) rfl
      · have q1 : ¬ ((2 : Nat) : Int) < 2 := by decide
        rw [or2_0 z, z2]
        simp only [simB, zbo, Nat.reduceBEq, own0, ↓reduceIte, Nat.reduceEqDiff, Nat.reduceAdd, simL, simN, Nat.zero_add, e2, e3, j2, j3, e11, q1]
        exact finish_i _ _ _ _ _ _ _ (by simp only [zfr, ↓reduceIte, Nat.reduceEqDiff]; try rfl) rfl
    have b4 : (k == 4) = false := beq_eq_false_iff_ne.mpr k4
    have hc := cmpX_no k n1 lg l s i1 kg ks (.mk k n2 lg' l' s' i2 kg' ks') (fun h => k4 h.1)
    simp only [kindT, kidsT, strT, numT, nT] at hc
    rw [or2_0 z0] at hc
    rw [hc]
    clear hc
    have cn := fun D st => callA_trees (cfg := cfg0) (d := D) (s := st) (f := 46) (vs := [encA n1 lg l, encA n2 lg' l']) (by cases lg <;> cases lg' <;> rfl) (rncmp_eq 100000 (m + 5) (Nat.le_refl _) (isN_A n1 lg l ga.1) (isN_A n2 lg' l' gb.1))
    simp only [encA] at cn
    have cc : k = 1 ∨ k = 2 ∨ k = 6 ∨ k = 9 ∨ k = 8 ∨ (k = 5 ∨ k = 7) ∨ (k ≠ 1 ∧ k ≠ 2 ∧ k ≠ 6 ∧ k ≠ 5 ∧ k ≠ 7 ∧ k ≠ 8 ∧ k ≠ 9) := by omega
    rcases cc with rfl | rfl | rfl | rfl | rfl | h57 | ⟨x1, x2, x6, x5, x7, x8, x9⟩
    · have p1 : ((0 : Int) != 0) = false := rfl
      simp only [simB, zbo, Nat.reduceBEq, own0, ↓reduceIte, Nat.reduceEqDiff, Nat.reduceAdd, simA, simL, simN, Nat.zero_add, encT, cellsT, faT_0, faT_1, faT_2, faT_3, ldT_0, ldT_1, ldT_2, ldT_3, Nat.reduceAdd, r1, r2, r3, i_neqV, i_eqlV, Int.reduceBEq, Int.reduceEq, true_or, or_true, false_or, or_false, ↓reduceIte, p1, cn]
      exact finish_i _ _ _ _ _ _ _ (by simp only [zfr, ↓reduceIte, Nat.reduceEqDiff]; try rfl) rfl
    · have p1 : ((0 : Int) != 0) = false := rfl
      simp only [simB, zbo, Nat.reduceBEq, own0, ↓reduceIte, Nat.reduceEqDiff, Nat.reduceAdd, simA, simL, simN, Nat.zero_add, encT, cellsT, faT_0, faT_1, faT_2, faT_3, ldT_0, ldT_1, ldT_2, ldT_3, Nat.reduceAdd, r1, r2, r3, i_neqV, i_eqlV, Int.reduceBEq, Int.reduceEq, true_or, or_true, false_or, or_false, ↓reduceIte, p1, tx]
      exact finish_i _ _ _ _ _ _ _ (by simp only [zfr, ↓reduceIte, Nat.reduceEqDiff]; try rfl) rfl
    · have p1 : ((0 : Int) != 0) = false := rfl
      simp only [simB, zbo, Nat.reduceBEq, own0, ↓reduceIte, Nat.reduceEqDiff, Nat.reduceAdd, simA, simL, simN, Nat.zero_add, encT, cellsT, faT_0, faT_1, faT_2, faT_3, ldT_0, ldT_1, ldT_2, ldT_3, Nat.reduceAdd, r1, r2, r3, i_neqV, i_eqlV, Int.reduceBEq, Int.reduceEq, true_or, or_true, false_or, or_false, ↓reduceIte, p1, tx]
      exact finish_i _ _ _ _ _ _ _ (by simp only [zfr, ↓reduceIte, Nat.reduceEqDiff]; try rfl) rfl
    · have p1 : ((0 : Int) != 0) = false := rfl
      simp only [simB, zbo, Nat.reduceBEq, own0, ↓reduceIte, Nat.reduceEqDiff, Nat.reduceAdd, simA, simL, simN, Nat.zero_add, encT, cellsT, faT_0, faT_1, faT_2, faT_3, ldT_0, ldT_1, ldT_2, ldT_3, Nat.reduceAdd, r1, r2, r3, i_neqV, i_eqlV, Int.reduceBEq, Int.reduceEq, true_or, or_true, false_or, or_false, ↓reduceIte, p1, t3]
      exact finish_i _ _ _ _ _ _ _ (by simp only [zfr, ↓reduceIte, Nat.reduceEqDiff]; try rfl) rfl
    · by_cases zs : strC s s' = 0
      · have p2 : (strC s s' != 0) = false := by rw [zs]; rfl
        simp only [Int.reduceEq, or_self, ↓reduceIte]
        rw [or2_0 zs]
        simp only [simB, zbo, Nat.reduceBEq, own0, ↓reduceIte, Nat.reduceEqDiff, Nat.reduceAdd, simA, simL, simN, Nat.zero_add, encT, cellsT, faT_0, faT_1, faT_2, faT_3, ldT_0, ldT_1, ldT_2, ldT_3, Nat.reduceAdd, r1, r2, r3, i_neqV, i_eqlV, Int.reduceBEq, p1, tx, p2, t3]
        exact finish_i _ _ _ _ _ _ _ (by simp only [zfr, ↓reduceIte, Nat.reduceEqDiff]; try rfl) rfl
      · have p2 : (strC s s' != 0) = true := by rw [bne_iff_ne]; exact zs
        simp only [Int.reduceEq, or_self, ↓reduceIte]
        rw [or2_n zs]
        simp only [simB, zbo, Nat.reduceBEq, own0, ↓reduceIte, Nat.reduceEqDiff, Nat.reduceAdd, simA, simL, simN, Nat.zero_add, encT, cellsT, faT_0, faT_1, faT_2, faT_3, ldT_0, ldT_1, ldT_2, ldT_3, Nat.reduceAdd, r1, r2, r3, i_neqV, i_eqlV, Int.reduceBEq, p1, tx, p2]
        exact finish_i _ _ _ _ _ _ _ (by simp only [zfr, ↓reduceIte, Nat.reduceEqDiff]; try rfl) rfl
    · have hB : ∀ P : Prop, (P → P) := fun _ h => h
      have b1 : (k == 1) = false := beq_eq_false_iff_ne.mpr (by omega)
      have b2 : (k == 2) = false := beq_eq_false_iff_ne.mpr (by omega)
      have b6 : (k == 6) = false := beq_eq_false_iff_ne.mpr (by omega)
      have b8 : (k == 8) = false := beq_eq_false_iff_ne.mpr (by omega)
      have b9 : (k == 9) = false := beq_eq_false_iff_ne.mpr (by omega)
      rw [if_neg (by omega), if_neg (by omega)]
      have hfun : k = 7 ∧ three i1 i2 ≠ 0 ∨ (k = 5 ∨ (k = 7 ∧ three i1 i2 = 0)) := by omega
      rcases hfun with ⟨h7, hz⟩ | hno
      · subst h7
        have p2 : (three i1 i2 != 0) = true := by rw [bne_iff_ne]; exact hz
        simp only [Int.reduceEq, or_self, ↓reduceIte]
        rw [or2_n hz]
        simp only [simB, zbo, Nat.reduceBEq, own0, ↓reduceIte, Nat.reduceEqDiff, Nat.reduceAdd, simA, simL, simN, Nat.zero_add, encT, cellsT, faT_0, faT_1, faT_2, faT_3, ldT_0, ldT_1, ldT_2, ldT_3, Nat.reduceAdd, r1, r2, r3, i_neqV, i_eqlV, Int.reduceBEq, p1, t3, p2]
        exact finish_i _ _ _ _ _ _ _ (by simp only [zfr, ↓reduceIte, Nat.reduceEqDiff]; try rfl) rfl
      · have hif : (if k = 7 then or2 (three i1 i2) (or2 (three ks.length ks'.length) (cmpXL ks ks')) else if k = 5 then or2 (three ks.length ks'.length) (cmpXL ks ks') else if k = 8 then or2 (strC s s') (three i1 i2) else if k = 9 then three i1 i2 else 0) = or2 (three ks.length ks'.length) (cmpXL ks ks') := by
          rcases hno with h5 | ⟨h7, hz⟩
          · rw [if_neg (by omega), if_pos h5]
          · rw [if_pos h7, or2_0 hz]
        rw [hif]
        have hg : (k = 5 ∧ (k == 7) = false ∧ (k == 5) = true) ∨ (k = 7 ∧ (k == 7) = true ∧ (three i1 i2 != 0) = false) := by
          rcases hno with h5 | ⟨h7, hz⟩
          · left; subst h5; exact ⟨rfl, rfl, rfl⟩
          · right; subst h7; exact ⟨rfl, rfl, by rw [hz]; rfl⟩
        by_cases hll : ks.length = ks'.length
        rotate_left
        · have z : three (ks.length : Int) (ks'.length : Int) ≠ 0 := fun e => hll (by rw [three_zero] at e; omega)
          have p2 : (three (ks.length : Int) (ks'.length : Int) != 0) = true := by rw [bne_iff_ne]; exact z
          rw [or2_n z]
          rcases hg with ⟨-, g1, g2⟩ | ⟨-, g1, g2⟩ <;>
          · simp only [simB, zbo, Nat.reduceBEq, own0, ↓reduceIte, Nat.reduceEqDiff, Nat.reduceAdd, simA, simL, simN, Nat.zero_add, encT, cellsT, faT_0, faT_3, faT_4, ldT_0, ldT_3, ldT_4, Nat.reduceAdd, r1, r2, r3, i_neqV, i_eqlV, b1, b2, b6, b8, b9, g1, g2, p1, lenTk, t3, p2]
            exact finish_i _ _ _ _ _ _ _ (by simp only [zfr, ↓reduceIte, Nat.reduceEqDiff]; try rfl) rfl
        have z : three (ks.length : Int) (ks'.length : Int) = 0 := by rw [three_zero]; omega
        rw [or2_0 z]
        have p3 : (three (ks.length : Int) (ks'.length : Int) != 0) = false := by rw [z]; rfl
        rcases hg with ⟨-, g1, g2⟩ | ⟨-, g1, g2⟩ <;>
        · simp only [simB, zbo, Nat.reduceBEq, own0, ↓reduceIte, Nat.reduceEqDiff, Nat.reduceAdd, simA, simL, simN, Nat.zero_add, encT, cellsT, faT_0, faT_3, faT_4, ldT_0, ldT_3, ldT_4, Nat.reduceAdd, r1, r2, r3, i_neqV, i_eqlV, b1, b2, b6, b8, b9, g1, g2, p1, lenTk, t3, p3, den_loop]
          refine loop_ends (X := Nat) (fun i env st => env 2 = .ptr 2 1 0 ∧ env 3 = .ptr 3 1 0 ∧ st 2 = ⟨1, .buf (cellsT (.mk k n1 lg l s i1 kg ks))⟩ ∧ st 3 = ⟨1, .buf (cellsT (.mk k n2 lg' l' s' i2 kg' ks'))⟩ ∧ env 9 = .int .i64 (i : Int) ∧ i ≤ ks.length ∧ cmpXL (ks.drop i) (ks'.drop i) = cmpXL ks ks') (fun i => ks.length - i) (fun _ => (.tree (.int .i64 (cmpXL ks ks')), [[], []])) ?_ 100000 0 _ _ (by omega) ⟨(by simp only [zfr, ↓reduceIte, Nat.reduceEqDiff]; try rfl), (by simp only [zfr, ↓reduceIte, Nat.reduceEqDiff]; try rfl), (by simp only [zfr, ↓reduceIte, Nat.reduceEqDiff]; try rfl), (by simp only [zfr, ↓reduceIte, Nat.reduceEqDiff]; try rfl), (by simp only [zfr, ↓reduceIte, Nat.reduceEqDiff]; try rfl), Nat.zero_le _, rfl⟩
          intro rr i hx ih env st ⟨e2, e3, j2, j3, e9, hi, hc⟩
          simp only [cellsT] at j2 j3
          cases hda : ks.drop i with
          | nil =>
            have hil : i = ks.length := by have := congrArg List.length hda; simp only [List.length_drop, List.length_nil] at this; omega
            have q1 : ¬ ((i : Int) < (ks.length : Int)) := by omega
            have hdb : ks'.drop i = [] := List.drop_eq_nil_of_le (by omega)
            rw [hda, hdb] at hc
            simp only [cmpXL] at hc
            rw [← hc]
            simp only [simB, zbo, Nat.reduceBEq, own0, ↓reduceIte, Nat.reduceEqDiff, Nat.reduceAdd, simL, simN, Nat.zero_add, e2, e3, j2, j3, e9, faT_4, ldT_4, Nat.reduceAdd, lenTk, q1]
            exact finish_i _ _ _ _ _ _ _ (by simp only [zfr, ↓reduceIte, Nat.reduceEqDiff]; try rfl) rfl
          | cons x q =>
            have hil : i < ks.length := by have := congrArg List.length hda; simp only [List.length_drop, List.length_cons] at this; omega
            have hjl : i < ks'.length := by omega
            have q1 : (i : Int) < (ks.length : Int) := by omega
            have ia := fun st => ia_K st ks (gr kg) i hil
            rw [hda] at ia hc
            have ld := fun st => ld_K st x q
            simp only [encT] at ld
            cases hdb : ks'.drop i with
            | nil => have := congrArg List.length hdb; simp only [List.length_drop, List.length_nil] at this; omega
            | cons y r =>
              have ib := fun st => ia_K st ks' (gr kg') i hjl
              rw [hdb] at ib hc
              have ldb := fun st => ld_K st y r
              simp only [encT] at ldb
              simp only [cmpXL] at hc
              have gx := bigK_at _ ks i x q hda ga.2.2
              have gy := bigK_at _ ks' i y r hdb gb.2.2
              have hxn := kids_nod ks i x q hda
              have hx := kids_ht ks i x q hda
              have cc := callQ_trees (f := 19) (vs := [encT x, encT y]) rfl (IH x y (by omega) (by omega) gx gy)
              simp only [encT] at cc
              have f5 := i_add Tryz.prog 3 (i : Int) 1 (by omega) (by omega)
              by_cases z : cmpX x y = 0
              · rw [or2_0 z] at hc
                rw [z] at cc
                simp only [simB, zbo, Nat.reduceBEq, own0, ↓reduceIte, Nat.reduceEqDiff, Nat.reduceAdd, simL, simN, Nat.zero_add, e2, e3, j2, j3, e9, faT_4, ldT_4, Nat.reduceAdd, lenTk, q1, ia, ib, ld, ldb, cc, i_neqV, p1, f5]
                exact ih (i + 1) _ _ (by omega) rfl ⟨(by simp only [zfr, ↓reduceIte, Nat.reduceEqDiff, e2]; try rfl), (by simp only [zfr, ↓reduceIte, Nat.reduceEqDiff, e3]; try rfl), by simp only [cellsT]; exact j2, by simp only [cellsT]; exact j3, (by simp only [zfr, ↓reduceIte, Nat.reduceEqDiff]; try rfl), by omega, by rw [drop_next hda, drop_next hdb]; exact hc⟩
              · rw [or2_n z] at hc
                have p3 : (cmpX x y != 0) = true := by rw [bne_iff_ne]; exact z
                rw [← hc]
                simp only [simB, zbo, Nat.reduceBEq, own0, ↓reduceIte, Nat.reduceEqDiff, Nat.reduceAdd, simL, simN, Nat.zero_add, e2, e3, j2, j3, e9, faT_4, ldT_4, Nat.reduceAdd, lenTk, q1, ia, ib, ld, ldb, cc, i_neqV, p3]
                exact finish_i _ _ _ _ _ _ _ (by simp only [zfr, ↓reduceIte, Nat.reduceEqDiff]; try rfl) rfl
    · have b1 : (k == 1) = false := beq_eq_false_iff_ne.mpr x1
      have b2 : (k == 2) = false := beq_eq_false_iff_ne.mpr x2
      have b6 : (k == 6) = false := beq_eq_false_iff_ne.mpr x6
      have b5 : (k == 5) = false := beq_eq_false_iff_ne.mpr x5
      have b7 : (k == 7) = false := beq_eq_false_iff_ne.mpr x7
      have b8 : (k == 8) = false := beq_eq_false_iff_ne.mpr x8
      have b9 : (k == 9) = false := beq_eq_false_iff_ne.mpr x9
      rw [if_neg x1, if_neg (by omega), if_neg x7, if_neg x5, if_neg x8, if_neg x9]
      simp only [simB, zbo, Nat.reduceBEq, own0, ↓reduceIte, Nat.reduceEqDiff, Nat.reduceAdd, simA, simL, simN, Nat.zero_add, encT, cellsT, faT_0, ldT_0, r1, r2, r3, i_neqV, i_eqlV, p1, b1, b2, b4, b5, b6, b7, b8, b9]
      exact finish_i _ _ _ _ _ _ _ (by simp only [zfr, ↓reduceIte, Nat.reduceEqDiff]; try rfl) rfl
end Go.Ab

/- What does not ask for rows' room: sameness, order, items, lists. No conditions. -/
namespace Go.Ab
open Go.Proofs
set_option maxRecDepth 100000
set_option linter.unusedSimpArgs false

theorem kind_bare (t : T) : kindT (bareT t) = kindT t := by obtain ⟨k, b, lg, l, s, m, kg, ks⟩ := t; rfl
theorem kids_bare (t : T) : kidsT (bareT t) = bareK (kidsT t) := by obtain ⟨k, b, lg, l, s, m, kg, ks⟩ := t; rfl
theorem str_bare (t : T) : strT (bareT t) = strT t := by obtain ⟨k, b, lg, l, s, m, kg, ks⟩ := t; rfl
theorem num_bare (t : T) : numT (bareT t) = numT t := by obtain ⟨k, b, lg, l, s, m, kg, ks⟩ := t; rfl
theorem n_bare (t : T) : nT (bareT t) = nT t := by obtain ⟨k, b, lg, l, s, m, kg, ks⟩ := t; rfl
theorem sgn_bare (t : T) : sgnT (bareT t) = sgnT t := by obtain ⟨k, b, lg, l, s, m, kg, ks⟩ := t; rfl
theorem lim_bare (t : T) : limT (bareT t) = limT t := by obtain ⟨k, b, lg, l, s, m, kg, ks⟩ := t; rfl
mutual
theorem same_bare : ∀ a b : T, sameT (bareT a) (bareT b) = sameT a b
  | .mk k b lg l s n kg ks, u => by
    have h := sameK_bare ks (kidsT u)
    simp only [bareT, sameT, kind_bare, sgn_bare, lim_bare, str_bare, n_bare, kids_bare, h]
theorem sameK_bare : ∀ a b : List T, sameK (bareK a) (bareK b) = sameK a b
  | [], [] => rfl
  | [], _ :: _ => by simp only [bareK, sameK]
  | _ :: _, [] => by simp only [bareK, sameK]
  | x :: r, y :: q => by simp only [bareK, sameK, same_bare x y, sameK_bare r q]
end
theorem headD_bare (v : List T) : (bareK v).headD nilT' = bareT (v.headD nilT') := by cases v <;> rfl
theorem tail_bare (v : List T) : (bareK v).tail = bareK v.tail := by cases v <;> rfl
theorem nilX_bare (u : T) : nilX (bareT u) = nilX u := by simp only [nilX, kind_bare]
mutual
theorem cmp_bare : ∀ a b : T, cmpX (bareT a) (bareT b) = cmpX a b
  | .mk k b lg l s n kg ks, u => by
    have h := cmpL_bare ks (kidsT u)
    have h2 := cmpC_bare ks (kidsT u)
    simp only [bareT, cmpX, kind_bare, str_bare, n_bare, num_bare, kids_bare, bareK_len, h, h2]
theorem cmpC_bare : ∀ a b : List T, cmpXC (bareK a) (bareK b) = cmpXC a b
  | [], v => by simp only [bareK, cmpXC, headD_bare, tail_bare, nilX_bare]
  | x :: r, v => by simp only [bareK, cmpXC, headD_bare, tail_bare, cmp_bare x, cmpD_bare r]
theorem cmpD_bare : ∀ a b : List T, cmpXD (bareK a) (bareK b) = cmpXD a b
  | [], v => by simp only [bareK, cmpXD, headD_bare, nilX_bare]
  | x :: r, v => by simp only [bareK, cmpXD, headD_bare, cmp_bare x]
theorem cmpL_bare : ∀ a b : List T, cmpXL (bareK a) (bareK b) = cmpXL a b
  | [], [] => rfl
  | [], _ :: _ => by simp only [bareK, cmpXL]
  | _ :: _, [] => by simp only [bareK, cmpXL]
  | x :: r, y :: q => by simp only [bareK, cmpXL, cmp_bare x y, cmpL_bare r q]
end
theorem same_eqB {a b a' b' : T} (h : bareT a = bareT a') (h' : bareT b = bareT b') : sameT a b = sameT a' b' := by rw [← same_bare, h, h', same_bare]
theorem cmp_eqB {a b a' b' : T} (h : bareT a = bareT a') (h' : bareT b = bareT b') : cmpX a b = cmpX a' b' := by rw [← cmp_bare, h, h', cmp_bare]
mutual
theorem nod_bare : ∀ t : T, nodT (bareT t) = nodT t
  | .mk k b lg l s n kg ks => by simp only [bareT, nodT, nodK_bare ks]
theorem nodK_bare : ∀ ks : List T, nodK (bareK ks) = nodK ks
  | [] => rfl
  | t :: r => by simp only [bareK, nodK, nod_bare t, nodK_bare r]
end
theorem nod_eqB {a b : T} (h : bareT a = bareT b) : nodT a = nodT b := by rw [← nod_bare, h, nod_bare]
theorem bareK_app : ∀ a b : List T, bareK (a ++ b) = bareK a ++ bareK b
  | [], b => rfl
  | x :: r, b => by simp only [List.cons_append, bareK, bareK_app r b]
theorem bareK_map : ∀ ks : List T, bareK ks = ks.map bareT
  | [] => rfl
  | t :: r => by simp only [bareK, List.map_cons, bareK_map r]
theorem itT_bareK : ∀ (r : Nat) (t t' : T) (acc acc' : List T), bareT t = bareT t' → bareK acc = bareK acc' → (itT r t acc).map bareK = (itT r t' acc').map bareK
  | 0, _, _, _, _, _, _ => rfl
  | r + 1, .mk k b lg l s n kg ks, .mk k' b' lg' l' s' n' kg' ks', acc, acc', h, ha => by
    simp only [bareT, T.mk.injEq, true_and] at h
    obtain ⟨rfl, rfl, rfl, rfl, rfl, hb⟩ := h
    by_cases k3 : k = 3
    · rw [itR_k3 _ _ _ _ _ _ _ _ _ _ k3, itR_k3 _ _ _ _ _ _ _ _ _ _ k3]; simp [ha]
    by_cases k4 : k = 4
    · have hl : ks.length = ks'.length := by have := congrArg List.length hb; rwa [bareK_len, bareK_len] at this
      by_cases k2 : ks.length = 2
      · obtain ⟨x, u, rfl⟩ : ∃ x u, ks = [x, u] := by
          match ks, k2 with
          | [x, u], _ => exact ⟨x, u, rfl⟩
        obtain ⟨x', u', rfl⟩ : ∃ x u, ks' = [x, u] := by
          match ks', hl with
          | [x, u], _ => exact ⟨x, u, rfl⟩
        rw [itR_2 _ _ _ _ _ _ _ _ _ _ _ k3 k4, itR_2 _ _ _ _ _ _ _ _ _ _ _ k3 k4]
        simp only [bareK, List.cons.injEq] at hb
        exact itT_bareK r u u' _ _ hb.2.1 (by rw [bareK_app, bareK_app, ha]; simp only [bareK, hb.1])
      · rw [itR_n2 _ _ _ _ _ _ _ _ _ _ k3 k4 k2, itR_n2 _ _ _ _ _ _ _ _ _ _ k3 k4 (by omega)]
    · rw [itR_no _ _ _ _ _ _ _ _ _ _ k3 k4, itR_no _ _ _ _ _ _ _ _ _ _ k3 k4]
theorem items_eqB {t t' : T} (h : bareT t = bareT t') : (itemsT t = none ∧ itemsT t' = none) ∨ ∃ us us', itemsT t = some us ∧ itemsT t' = some us' ∧ bareK us = bareK us' := by
  have e := itT_bareK 2001 t t' [] [] h rfl
  change (itemsT t).map bareK = (itemsT t').map bareK at e
  cases h1 : itemsT t with
  | none =>
    cases h2 : itemsT t' with
    | none => exact .inl ⟨rfl, rfl⟩
    | some u => rw [h1, h2] at e; cases e
  | some us =>
    cases h2 : itemsT t' with
    | none => rw [h1, h2] at e; cases e
    | some us' =>
      rw [h1, h2] at e
      simp only [Option.map_some, Option.some.injEq] at e
      exact .inr ⟨us, us', rfl, rfl, e⟩
theorem list_eqB : ∀ {us us' : List T} {t t' : T}, bareK us = bareK us' → bareT t = bareT t' → bareT (listT us t) = bareT (listT us' t')
  | [], [], t, t', _, h => h
  | [], _ :: _, _, _, h, _ => by cases h
  | _ :: _, [], _, _, h, _ => by cases h
  | a :: r, b :: q, t, t', h, h' => by
    simp only [bareK, List.cons.injEq] at h
    simp only [listT, consT, bareT, bareK, h.1, list_eqB h.2 h']
theorem rev_eqB {us us' : List T} (h : bareK us = bareK us') : bareK us.reverse = bareK us'.reverse := by
  rw [bareK_map, bareK_map] at h ⊢
  rw [List.map_reverse, List.map_reverse, h]
theorem set_eqB {us us' : List T} (h : bareK us = bareK us') (i : Nat) {w w' : T} (hw : bareT w = bareT w') : bareK (us.set i w) = bareK (us'.set i w') := by
  rw [bareK_map, bareK_map] at h ⊢
  rw [List.map_set, List.map_set, h, hw]
theorem len_eqB {us us' : List T} (h : bareK us = bareK us') : us.length = us'.length := by
  have := congrArg List.length h
  rwa [bareK_len, bareK_len] at this
def memX (a : T) (us : List T) : Bool := us.any fun x => sameT x a
theorem mem_eqB : ∀ {us us' : List T} {a a' : T}, bareK us = bareK us' → bareT a = bareT a' → memX a us = memX a' us'
  | [], [], _, _, _, _ => rfl
  | [], _ :: _, _, _, h, _ => by cases h
  | _ :: _, [], _, _, h, _ => by cases h
  | x :: r, y :: q, a, a', h, h' => by
    simp only [bareK, List.cons.injEq] at h
    have := mem_eqB h.2 h'
    unfold memX at this ⊢
    simp only [List.any_cons, same_eqB h.1 h', this]
theorem memX_drop (a : T) (us : List T) (i : Nat) (x : T) (q : List T) (h : us.drop i = x :: q) : memX a (us.drop i) = (sameT x a || memX a (us.drop (i + 1))) := by
  rw [drop_next h, h]; rfl
theorem okX_nod (t : T) (h : fewT 100000 t) (hn : nodT t ≤ 2000) : okX t := ⟨h, by have := ht_nod t; omega⟩
theorem fewK_mem {m : Nat} : ∀ {ks : List T}, fewK m ks → ∀ t ∈ ks, fewT m t
  | [], _, t, h => by cases h
  | a :: r, h, t, ht => by
    simp only [fewK] at h
    rcases List.mem_cons.1 ht with rfl | ht
    · exact h.1
    · exact fewK_mem h.2 t ht
theorem fewK_of {m : Nat} : ∀ {ks : List T}, (∀ t ∈ ks, fewT m t) → fewK m ks
  | [], _ => trivial
  | a :: r, h => by
    simp only [fewK]
    exact ⟨h a (by simp), fewK_of fun t ht => h t (by simp [ht])⟩
theorem itT_few (m : Nat) : ∀ (r : Nat) (t : T) (acc us : List T), itT r t acc = some us → fewT m t → fewK m acc → fewK m us
  | 0, _, _, _, h, _, _ => by cases h
  | r + 1, .mk k b lg l s n kg ks, acc, us, h, ht, ha => by
    by_cases k3 : k = 3
    · rw [itR_k3 _ _ _ _ _ _ _ _ _ _ k3] at h; cases h; exact ha
    by_cases k4 : k = 4
    · by_cases k2 : ks.length = 2
      · obtain ⟨x, u, rfl⟩ : ∃ x u, ks = [x, u] := by
          match ks, k2 with
          | [x, u], _ => exact ⟨x, u, rfl⟩
        rw [itR_2 _ _ _ _ _ _ _ _ _ _ _ k3 k4] at h
        simp only [fewT, fewK] at ht
        refine itT_few m r u _ us h ht.2.2.2.1 (fewK_of fun t hm => ?_)
        rcases List.mem_append.1 hm with hm | hm
        · exact fewK_mem ha t hm
        · simp only [List.mem_singleton] at hm; subst hm; exact ht.2.2.1
      · rw [itR_n2 _ _ _ _ _ _ _ _ _ _ k3 k4 k2] at h; cases h
    · rw [itR_no _ _ _ _ _ _ _ _ _ _ k3 k4] at h; cases h
theorem itT_nod : ∀ (r : Nat) (t : T) (acc us : List T), itT r t acc = some us → us.length + nodK us + 1 ≤ acc.length + nodK acc + nodT t
  | 0, _, _, _, h => by cases h
  | r + 1, .mk k b lg l s n kg ks, acc, us, h => by
    by_cases k3 : k = 3
    · rw [itR_k3 _ _ _ _ _ _ _ _ _ _ k3] at h; cases h; simp only [nodT]; omega
    by_cases k4 : k = 4
    · by_cases k2 : ks.length = 2
      · obtain ⟨x, u, rfl⟩ : ∃ x u, ks = [x, u] := by
          match ks, k2 with
          | [x, u], _ => exact ⟨x, u, rfl⟩
        rw [itR_2 _ _ _ _ _ _ _ _ _ _ _ k3 k4] at h
        have := itT_nod r u _ us h
        rw [nodK_app] at this
        simp only [List.length_append, List.length_cons, List.length_nil, nodK, nodT] at this ⊢
        omega
      · rw [itR_n2 _ _ _ _ _ _ _ _ _ _ k3 k4 k2] at h; cases h
    · rw [itR_no _ _ _ _ _ _ _ _ _ _ k3 k4] at h; cases h
theorem items_nod (t : T) (us : List T) (h : itemsT t = some us) : us.length + nodK us + 1 ≤ nodT t := by
  have := itT_nod 2001 t [] us h
  simp only [List.length_nil, nodK] at this
  omega
theorem items_few (m : Nat) (t : T) (us : List T) (h : itemsT t = some us) (ht : fewT m t) : fewK m us := itT_few m 2001 t [] us h ht trivial
end Go.Ab

/- bif.two of any terms, by its name. Conditions: limbs in range; so many nodes at most. -/
namespace Go.Ab
open Go.Proofs
set_option maxRecDepth 100000
set_option linter.unusedSimpArgs false

def maxX (a b : T) : T := if cmpX a b ≥ 0 then a else b
def minX (a b : T) : T := if cmpX a b ≤ 0 then a else b
def ppT (a b : T) : T × Bool := match itemsT a with
  | some us => (listT us b, true)
  | none => (b, false)
theorem pp_yes (a b : T) (us : List T) (h : itemsT a = some us) : ppT a b = (listT us b, true) := by unfold ppT; rw [h]
theorem pp_no (a b : T) (h : itemsT a = none) : ppT a b = (b, false) := by unfold ppT; rw [h]
def memT (a L : T) : T × Bool := match itemsT L with
  | some us => (atomT (if memX a us then sTrue else sFalse), true)
  | none => (T0, false)
theorem mem_yes (a L : T) (us : List T) (h : itemsT L = some us) (hm : memX a us = true) : memT a L = (atomT sTrue, true) := by unfold memT; rw [h]; simp only [hm, if_true]
theorem mem_not (a L : T) (us : List T) (h : itemsT L = some us) (hm : memX a us = false) : memT a L = (atomT sFalse, true) := by unfold memT; rw [h]; simp only [hm, Bool.false_eq_true, if_false]
theorem mem_none (a L : T) (h : itemsT L = none) : memT a L = (T0, false) := by unfold memT; rw [h]
section
variable (R d : Nat) (hR : 100000 ≤ R) (hd : 6020 ≤ d)
include hR hd
theorem btwo_element (a b : T) (la : Limbs (limT a)) : evalFn Tryz.prog cfg0 R (d+1) 63 [.tree (.str w_element), .tree (encT a), .tree (encT b)] = some (.tree (.tup [encT (twoT 1 a b).1, .bool (twoT 1 a b).2]), [[], [], []]) := by
  obtain ⟨d', rfl⟩ : ∃ d', d = d' + 5 := ⟨d - 5, by omega⟩
  exact twoEl_eq R (d'+5) a b _ _ (twoA_eq R d' hR 1 a b la)
theorem cmpX_R (a b : T) (ha : bigT 9223372036854775808 a) (hb : bigT 9223372036854775808 b) (hn : nodT a ≤ 1000) : evalFn Tryz.prog cfg0 R d 96 [.tree (encT a), .tree (encT b)] = some (.tree (.int .i64 (cmpX a b)), [[], []]) :=
  evalFn_mono hR 6020 d hd _ _ _ (tcmpX_eq 1000 6020 a b (by have := ht_nod a; omega) (by omega) hn ha hb)
set_option maxHeartbeats 4000000 in
theorem btwo_max (a b : T) (ha : bigT 9223372036854775808 a) (hb : bigT 9223372036854775808 b) (hn : nodT a ≤ 1000) : evalFn Tryz.prog cfg0 R (d+1) 63 [.tree (.str w_max), .tree (encT a), .tree (encT b)] = some (.tree (.tup [encT (maxX a b), .bool true]), [[], [], []]) := by
  rw [evalFn_go _ Tryz.func63 (by unfold Tryz.f63; rfl) (by unfold Tryz.f63; decide) (Nat.le_of_ble_eq_true (by unfold Tryz.f63; rfl)) (by kernel_rfl)]
  have w0 : (w_max == ([101, 108, 101, 109, 101, 110, 116] : List UInt8)) = false := by decide
  have w1 : (w_max == ([109, 101, 109, 98, 101, 114] : List UInt8)) = false := by decide
  have w2 : (w_max == ([109, 97, 120] : List UInt8)) = true := by decide
  have c := fun D st => callA_trees (cfg := cfg0) (d := D) (s := st) (f := 96) (vs := [encT a, encT b]) rfl (cmpX_R R d hR hd a b ha hb hn)
  simp only [encT] at c
  by_cases h : cmpX a b ≥ 0
  · have e : maxX a b = a := if_pos h
    rw [e]
    simp only [simB, zbo, Nat.reduceBEq, own0, ↓reduceIte, Nat.reduceEqDiff, Nat.reduceAdd, simA, simL, simN, Nat.zero_add, zex, List.toList_toArray, len9, ix9, zey, zez, zfa, zfb, zfc, zeroT, encT, ldT_u, s_eqlS, w0, w1, w2, c, h, st_Tt, stT_6]
    exact finish_T2 _ _ _ _ _ a _ _ _ _ _ (by simp only [zfr, ↓reduceIte, Nat.reduceEqDiff]; try rfl) (by simp only [zfr, ↓reduceIte, Nat.reduceEqDiff]; try rfl) (by simp only [zfr, ↓reduceIte, Nat.reduceEqDiff]; try rfl) rfl
  · have e : maxX a b = b := if_neg h
    rw [e]
    simp only [simB, zbo, Nat.reduceBEq, own0, ↓reduceIte, Nat.reduceEqDiff, Nat.reduceAdd, simA, simL, simN, Nat.zero_add, zex, List.toList_toArray, len9, ix9, zey, zez, zfa, zfb, zfc, zeroT, encT, ldT_u, s_eqlS, w0, w1, w2, c, h, st_Tt, stT_6]
    exact finish_T2 _ _ _ _ _ b _ _ _ _ _ (by simp only [zfr, ↓reduceIte, Nat.reduceEqDiff]; try rfl) (by simp only [zfr, ↓reduceIte, Nat.reduceEqDiff]; try rfl) (by simp only [zfr, ↓reduceIte, Nat.reduceEqDiff]; try rfl) rfl
set_option maxHeartbeats 4000000 in
theorem btwo_min (a b : T) (ha : bigT 9223372036854775808 a) (hb : bigT 9223372036854775808 b) (hn : nodT a ≤ 1000) : evalFn Tryz.prog cfg0 R (d+1) 63 [.tree (.str w_min), .tree (encT a), .tree (encT b)] = some (.tree (.tup [encT (minX a b), .bool true]), [[], [], []]) := by
  rw [evalFn_go _ Tryz.func63 (by unfold Tryz.f63; rfl) (by unfold Tryz.f63; decide) (Nat.le_of_ble_eq_true (by unfold Tryz.f63; rfl)) (by kernel_rfl)]
  have w0 : (w_min == ([101, 108, 101, 109, 101, 110, 116] : List UInt8)) = false := by decide
  have w1 : (w_min == ([109, 101, 109, 98, 101, 114] : List UInt8)) = false := by decide
  have w2 : (w_min == ([109, 97, 120] : List UInt8)) = false := by decide
  have w3 : (w_min == ([109, 105, 110] : List UInt8)) = true := by decide
  have c := fun D st => callA_trees (cfg := cfg0) (d := D) (s := st) (f := 96) (vs := [encT a, encT b]) rfl (cmpX_R R d hR hd a b ha hb hn)
  simp only [encT] at c
  by_cases h : cmpX a b ≤ 0
  · have e : minX a b = a := if_pos h
    rw [e]
    simp only [simB, zbo, Nat.reduceBEq, own0, ↓reduceIte, Nat.reduceEqDiff, Nat.reduceAdd, simA, simL, simN, Nat.zero_add, zex, List.toList_toArray, len9, ix9, zey, zez, zfa, zfb, zfc, zeroT, encT, ldT_u, s_eqlS, w0, w1, w2, w3, c, h, st_Tt, stT_6]
    exact finish_T2 _ _ _ _ _ a _ _ _ _ _ (by simp only [zfr, ↓reduceIte, Nat.reduceEqDiff]; try rfl) (by simp only [zfr, ↓reduceIte, Nat.reduceEqDiff]; try rfl) (by simp only [zfr, ↓reduceIte, Nat.reduceEqDiff]; try rfl) rfl
  · have e : minX a b = b := if_neg h
    rw [e]
    simp only [simB, zbo, Nat.reduceBEq, own0, ↓reduceIte, Nat.reduceEqDiff, Nat.reduceAdd, simA, simL, simN, Nat.zero_add, zex, List.toList_toArray, len9, ix9, zey, zez, zfa, zfb, zfc, zeroT, encT, ldT_u, s_eqlS, w0, w1, w2, w3, c, h, st_Tt, stT_6]
    exact finish_T2 _ _ _ _ _ b _ _ _ _ _ (by simp only [zfr, ↓reduceIte, Nat.reduceEqDiff]; try rfl) (by simp only [zfr, ↓reduceIte, Nat.reduceEqDiff]; try rfl) (by simp only [zfr, ↓reduceIte, Nat.reduceEqDiff]; try rfl) rfl
set_option maxHeartbeats 4000000 in
theorem btwo_pp (a b : T) (hn : nodT a ≤ 1999) : evalFn Tryz.prog cfg0 R (d+1) 63 [.tree (.str w_pp), .tree (encT a), .tree (encT b)] = some (.tree (.tup [encT (ppT a b).1, .bool (ppT a b).2]), [[], [], []]) := by
  obtain ⟨d', rfl⟩ : ∃ d', d = d' + 2 := ⟨d - 2, by omega⟩
  cases hI : itemsT a with
  | some us =>
    rw [pp_yes a b us hI]
    exact twoPP_eq R d' hR a b us hI (by have := items_len a us hI; omega)
  | none =>
    rw [pp_no a b hI]
    rw [evalFn_go _ Tryz.func63 (by unfold Tryz.f63; rfl) (by unfold Tryz.f63; decide) (Nat.le_of_ble_eq_true (by unfold Tryz.f63; rfl)) (by kernel_rfl)]
    have w0 : (w_pp == ([101, 108, 101, 109, 101, 110, 116] : List UInt8)) = false := by decide
    have w1 : (w_pp == ([109, 101, 109, 98, 101, 114] : List UInt8)) = false := by decide
    have w2 : (w_pp == ([109, 97, 120] : List UInt8)) = false := by decide
    have w3 : (w_pp == ([109, 105, 110] : List UInt8)) = false := by decide
    have ct := fun D st => callA_trees (cfg := cfg0) (d := D) (s := st) (f := 53) (vs := [encT a]) rfl (items_eq R (by omega) (d'+1) a)
    rw [hI] at ct
    have cl := fun D st => callA_trees (cfg := cfg0) (d := D) (s := st) (f := 91) (vs := [.sl [] 0 .nil, encT b]) rfl (tList_eq R (d'+1) [] .nil b (by simp))
    simp only [encT, itemsV, listT] at ct cl
    simp only [simB, zbo, Nat.reduceBEq, own0, ↓reduceIte, Nat.reduceEqDiff, Nat.reduceAdd, simA, simL, simN, Nat.zero_add, zex, List.toList_toArray, len9, ix9, zey, zez, zfa, zfb, zfc, zeroT, encT, ldT_u, s_eqlS, w0, w1, w2, w3, ct, cl, zdu, st_Tt, stT_6]
    exact finish_T2 _ _ _ _ _ b _ _ _ _ _ (by simp only [zfr, ↓reduceIte, Nat.reduceEqDiff]; try rfl) (by simp only [zfr, ↓reduceIte, Nat.reduceEqDiff]; try rfl) (by simp only [zfr, ↓reduceIte, Nat.reduceEqDiff]; try rfl) rfl
theorem sameX_R (x a : T) (hf : fewT 100000 x) (hn : nodT x ≤ 2000) : evalFn Tryz.prog cfg0 R d 121 [.tree (encT x), .tree (encT a)] = some (.tree (.bool (sameT x a)), [[], []]) :=
  evalFn_mono hR 6000 d (by omega) _ _ _ (tsame_eq 2000 6000 x a (by have := ht_nod x; omega) (by omega) hf)
set_option maxHeartbeats 4000000 in
theorem memberX_eq (a L : T) (hf : fewT 100000 L) (hn : nodT L ≤ 1999) :
    evalFn Tryz.prog cfg0 R (d+1) 95 [.tree (encT a), .tree (encT L)] = some (.tree (.tup [encT (memT a L).1, .bool (memT a L).2]), [[], []]) := by
  rw [evalFn_go _ Tryz.func95 (by unfold Tryz.f95; rfl) (by unfold Tryz.f95; decide) (Nat.le_of_ble_eq_true (by unfold Tryz.f95; rfl)) (by kernel_rfl)]
  obtain ⟨d', rfl⟩ : ∃ d', d = d' + 1 := ⟨d - 1, by omega⟩
  have ct := fun D st => callA_trees (cfg := cfg0) (d := D) (s := st) (f := 53) (vs := [encT L]) rfl (items_eq R (by omega) d' L)
  cases hI : itemsT L with
  | none =>
    rw [hI] at ct
    rw [mem_none a L hI]
    simp only [itemsV, encT] at ct
    simp only [simB, zbo, Nat.reduceBEq, own0, ↓reduceIte, Nat.reduceEqDiff, Nat.reduceAdd, simA, simL, simN, Nat.zero_add, zex, List.toList_toArray, len9, ix9, zey, zez, zfa, zfb, zfc, zeroT, encT, ldT_u, ct, zdu, unA_not', Bool.not_false, bdT_00, st_Tt, stT_6]
    exact finish_T2 _ _ _ _ _ T0 _ _ _ _ _ (by simp only [zfr, ↓reduceIte, Nat.reduceEqDiff]; try rfl) (by simp only [zfr, ↓reduceIte, Nat.reduceEqDiff]; try rfl) (by simp only [zfr, ↓reduceIte, Nat.reduceEqDiff]; try rfl) rfl
  | some us =>
  rw [hI] at ct
  simp only [itemsV, encT] at ct
  have hlen := items_len L us hI
  have hnk := items_nod L us hI
  have hfk := items_few 100000 L us hI hf
  have cat := fun z D st => callA_trees (cfg := cfg0) (d := D) (s := st) (f := 29) (vs := [.str z]) rfl (atom_eq R d' z)
  have ca1 := cat sTrue
  have ca2 := cat sFalse
  simp only [encT, sTrue, sFalse] at ca1 ca2
  simp only [simB, zbo, Nat.reduceBEq, own0, ↓reduceIte, Nat.reduceEqDiff, Nat.reduceAdd, simA, simL, simN, Nat.zero_add, zex, List.toList_toArray, len9, ix9, zey, zez, zfa, zfb, zfc, zeroT, encT, ldT_u, ct, zdu, unA_not', Bool.not_true, lenTk, zbv, zby, den_loop]
  refine loop_ends (X := Nat) (fun i env st => env 2 = .ptr 2 1 0 ∧ env 4 = .ptr 4 1 0 ∧ st 2 = ⟨1, .buf (cellsT a)⟩ ∧ st 4 = ⟨1, .buf [.int .i64 0, .bool false, .sl [] 0 .nil, .str [], .int .i64 0, .sl [] 0 .nil]⟩ ∧ env 8 = .str [102, 97, 108, 115, 101] ∧ env 19 = .sl (cellsK us) us.length (gr (kgOf us)) ∧ env 20 = .int .i64 (us.length : Int) ∧ env 21 = .int .i64 (i : Int) ∧ i ≤ us.length ∧ memX a us = memX a (us.drop i)) (fun i => us.length - i) (fun _ => (.tree (.tup [encT (memT a L).1, .bool (memT a L).2]), [[], []])) ?_ R 0 _ _ (by omega) ⟨(by simp only [zfr, ↓reduceIte, Nat.reduceEqDiff]; try rfl), (by simp only [zfr, ↓reduceIte, Nat.reduceEqDiff]; try rfl), (by simp only [zfr, ↓reduceIte, Nat.reduceEqDiff]; try rfl), (by simp only [zfr, ↓reduceIte, Nat.reduceEqDiff]; try rfl), (by simp only [zfr, ↓reduceIte, Nat.reduceEqDiff]; try rfl), (by simp only [zfr, ↓reduceIte, Nat.reduceEqDiff]; try rfl), (by simp only [zfr, ↓reduceIte, Nat.reduceEqDiff]; try rfl), (by simp only [zfr, ↓reduceIte, Nat.reduceEqDiff]; try rfl), Nat.zero_le _, rfl⟩
  intro rr i hx ih env st ⟨e2, e4, j2, j4, e8, e19, e20, e21, hi, hm⟩
  cases hda : us.drop i with
  | nil =>
    have hil : i = us.length := by have := congrArg List.length hda; simp only [List.length_drop, List.length_nil] at this; omega
    have q1 : ¬ (i : Int) < (us.length : Int) := by omega
    rw [hda] at hm
    rw [mem_not a L us hI hm]
    simp only [simB, zbo, Nat.reduceBEq, own0, ↓reduceIte, Nat.reduceEqDiff, Nat.reduceAdd, simL, simN, Nat.zero_add, zex, List.toList_toArray, len9, ix9, zey, zez, zfa, zfb, zfc, zeroT, e2, e4, e8, j2, j4, e19, e20, e21, q1, ca2, st_Tt, stT_6]
    exact finish_T2 _ _ _ _ _ (atomT sFalse) _ _ _ _ _ (by simp only [zfr, ↓reduceIte, Nat.reduceEqDiff, e4]; try rfl) (by simp only [zfr, ↓reduceIte, Nat.reduceEqDiff]; try rfl) (by simp only [zfr, ↓reduceIte, Nat.reduceEqDiff]; try rfl) rfl
  | cons x q =>
    have hil : i < us.length := by have := congrArg List.length hda; simp only [List.length_drop, List.length_cons] at this; omega
    have q1 : (i : Int) < (us.length : Int) := by omega
    have ia := fun st => ia_K st us (gr (kgOf us)) i hil
    have hmd := memX_drop a us i x q hda
    rw [hda] at ia
    have ld := fun st => ld_K st x q
    simp only [encT] at ld
    have hxm : x ∈ us := by have : x ∈ us.drop i := by rw [hda]; simp
                            exact List.mem_of_mem_drop this
    have cs := fun D st => callA_trees (cfg := cfg0) (d := D) (s := st) (f := 121) (vs := [encT x, encT a]) rfl (sameX_R R (d'+1) hR hd x a (fewK_mem hfk x hxm) (by have := kids_nod us i x q hda; omega))
    simp only [encT] at cs
    have f5 := i_add Tryz.prog 3 (i : Int) 1 (by omega) (by omega)
    cases hsm : sameT x a with
    | true =>
      rw [hsm] at cs
      rw [hmd, hsm, Bool.true_or] at hm
      rw [mem_yes a L us hI hm]
      simp only [simB, zbo, Nat.reduceBEq, own0, ↓reduceIte, Nat.reduceEqDiff, Nat.reduceAdd, simL, simN, Nat.zero_add, zex, List.toList_toArray, len9, ix9, zey, zez, zfa, zfb, zfc, zeroT, e2, e4, e8, j2, j4, e19, e20, e21, q1, ia, ld, ldT_u, st_Tt, stT_6, cs, ca1]
      exact finish_T2 _ _ _ _ _ (atomT sTrue) _ _ _ _ _ (by simp only [zfr, ↓reduceIte, Nat.reduceEqDiff, e4]; try rfl) (by simp only [zfr, ↓reduceIte, Nat.reduceEqDiff]; try rfl) (by simp only [zfr, ↓reduceIte, Nat.reduceEqDiff]; try rfl) rfl
    | false =>
      rw [hsm] at cs
      rw [hmd, hsm, Bool.false_or] at hm
      simp only [simB, zbo, Nat.reduceBEq, own0, ↓reduceIte, Nat.reduceEqDiff, Nat.reduceAdd, simL, simN, Nat.zero_add, zex, List.toList_toArray, len9, ix9, zey, zez, zfa, zfb, zfc, zeroT, e2, e4, e8, j2, j4, e19, e20, e21, q1, ia, ld, ldT_u, st_Tt, stT_6, cs, f5]
      exact ih (i + 1) _ _ (by omega) rfl ⟨(by simp only [zfr, ↓reduceIte, Nat.reduceEqDiff, e2]; try rfl), (by simp only [zfr, ↓reduceIte, Nat.reduceEqDiff, e4]; try rfl), (by simp only [zfr, ↓reduceIte, Nat.reduceEqDiff, j2]; try rfl), (by simp only [zfr, ↓reduceIte, Nat.reduceEqDiff, j4]; try rfl), (by simp only [zfr, ↓reduceIte, Nat.reduceEqDiff, e8]; try rfl), (by simp only [zfr, ↓reduceIte, Nat.reduceEqDiff, e19]; try rfl), (by simp only [zfr, ↓reduceIte, Nat.reduceEqDiff, e20]; try rfl), (by simp only [zfr, ↓reduceIte, Nat.reduceEqDiff]; try rfl), by omega, hm⟩
theorem btwo_member (a L : T) (hf : fewT 100000 L) (hn : nodT L ≤ 1999) : evalFn Tryz.prog cfg0 R (d+2) 63 [.tree (.str w_member), .tree (encT a), .tree (encT L)] = some (.tree (.tup [encT (memT a L).1, .bool (memT a L).2]), [[], [], []]) :=
  twoMem_eq R (d+1) a L _ _ (memberX_eq R d hR hd a L hf hn)
end
end Go.Ab

/- relictref19.more of any terms, by its name (CFG4; printed by genrmore.py). Conditions: limbs in range; so many nodes at most. -/
namespace Go.Ab
open Go.Proofs
set_option maxRecDepth 100000
set_option linter.unusedSimpArgs false

theorem ia_0W (st : St) (a b : T) (r : List T) (g : Grip) : indexAddrA Tryz.prog 22 st (.sl (cellsK (a :: b :: r)) (a :: b :: r).length g) (.int .i64 0) = some (.rptr (cellsK (a :: b :: r))) := ia_K st (a :: b :: r) g 0 (Nat.zero_lt_succ _)
theorem ia_1W (st : St) (a b : T) (r : List T) (g : Grip) : indexAddrA Tryz.prog 22 st (.sl (cellsK (a :: b :: r)) (a :: b :: r).length g) (.int .i64 1) = some (.rptr (cellsK (b :: r))) := ia_K st (a :: b :: r) g 1 (by simp only [List.length_cons]; omega)
theorem rcmpX_R (a b : T) (ha : bigT 9223372036854775808 a) (hb : bigT 9223372036854775808 b) (hn : nodT a ≤ 1000) : evalFn Tryz.prog cfg0 9223372036854775808 6190 19 [.tree (encT a), .tree (encT b)] = some (.tree (.int .i64 (cmpX a b)), [[], []]) :=
  evalFn_mono (by decide) 6020 6190 (by decide) _ _ _ (rcmpX_eq 1000 6020 a b (by have := ht_nod a; omega) (by omega) hn ha hb)
theorem rsameX_R (x a : T) (hf : fewT 100000 x) (hn : nodT x ≤ 2000) : evalFn Tryz.prog cfg0 9223372036854775808 6190 18 [.tree (encT x), .tree (encT a)] = some (.tree (.bool (sameT x a)), [[], []]) :=
  evalFn_mono (by decide) 6190 6190 (by decide) _ _ _ (rsame_eq 100000 (by decide) 6189 6190 x a (by have := ht_nod x; omega) (by decide) hf)
def ppR (a b : T) : T × Bool := match itemsT a with
  | some us => (listT us b, true)
  | none => (T0, false)
theorem ppR_yes (a b : T) (us : List T) (h : itemsT a = some us) : ppR a b = (listT us b, true) := by unfold ppR; rw [h]
theorem ppR_no (a b : T) (h : itemsT a = none) : ppR a b = (T0, false) := by unfold ppR; rw [h]

set_option maxHeartbeats 8000000 in
theorem rmore_element (n d : Nat) (a b : T) (r : List T) (g : Grip) (_hg : g.isTok = false) (na : nodT a ≤ 1999) (nb : nodT b ≤ 1999) (la : Limbs (limT a)) : evalFn Tryz.prog cfg4 n (d+2) 37 [.tree (.str w_element), .tree (.sl (cellsK (a :: b :: r)) (a :: b :: r).length g)] = some (.tree (.tup [encT ((twoT 1 a b).1), .bool ((twoT 1 a b).2)]), [[], []]) := by
  rw [evalFn_go _ Tryz.func37 (by unfold Tryz.f37; rfl) (by unfold Tryz.f37; decide) (Nat.le_of_ble_eq_true (by unfold Tryz.f37; rfl)) (by kernel_rfl)]
  have w0 : (w_element == ([101, 108, 101, 109, 101, 110, 116] : List UInt8)) = true := by decide
  have w1 : (w_element == ([43, 43] : List UInt8)) = false := by decide
  have w2 : (w_element == ([109, 97, 120] : List UInt8)) = false := by decide
  have w3 : (w_element == ([109, 105, 110] : List UInt8)) = false := by decide
  have w4 : (w_element == ([109, 101, 109, 98, 101, 114] : List UInt8)) = false := by decide
  have w5 : (w_element == ([115, 101, 116, 101, 108, 101, 109, 101, 110, 116] : List UInt8)) = false := by decide
  have c1 := fun D st => callA_trees (cfg := cfg4) (d := D) (s := st) (f := 55) (vs := [encT a]) rfl (ev4 (n := n) (d := d) rfl rfl (rItemsA_eq 9223372036854775808 6189 a na (by decide)))
  have c2 := fun D st => callA_trees (cfg := cfg4) (d := D) (s := st) (f := 55) (vs := [encT b]) rfl (ev4 (n := n) (d := d) rfl rfl (rItemsA_eq 9223372036854775808 6189 b nb (by decide)))
  have l0 := fun st => ld_KW st a (b :: r)
  have l1 := fun st => ld_KW st b r
  obtain ⟨x1, o1, h1⟩ := itemsV_tup (itemsT a)
  rw [h1] at c1
  obtain ⟨x2, o2, h2⟩ := itemsV_tup (itemsT b)
  rw [h2] at c2
  simp only [encT] at c1 c2
  have ct := callQ_trees (f := 26) (vs := [.int .i64 1, encT a, encT b]) rfl (ev4 (n := n) (d := d) rfl rfl (rtwoA_eq 9223372036854775808 6185 (by decide) 1 a b la))
  simp only [encT] at ct
  simp only [simB, keep4, Nat.reduceBEq, own4, String.reduceAppend, String.reduceBEq, Bool.or_false, Bool.or_true, Bool.or_self, ↓reduceIte, Nat.reduceEqDiff, Nat.reduceAdd, simA, simL, simN, Nat.zero_add, zex, List.toList_toArray, len9, ix9, zey, zez, zfa, zfb, zfc, simV, zeroT, s_eqlS, w0, w1, w2, w3, w4, w5, ia_0W, ia_1W, l0, l1, c1, c2, lenTk, zdu, bdT_00, st_Tt, stT_6, ct]
  exact finish_T2 _ _ _ _ _ ((twoT 1 a b).1) _ _ _ _ _ (by simp only [zfr, ↓reduceIte, Nat.reduceEqDiff]; try rfl) (by simp only [zfr, ↓reduceIte, Nat.reduceEqDiff]; try rfl) (by simp only [zfr, ↓reduceIte, Nat.reduceEqDiff]; try rfl) rfl

set_option maxHeartbeats 8000000 in
theorem rmore_pp (n d : Nat) (a b : T) (r : List T) (g : Grip) (_hg : g.isTok = false) (na : nodT a ≤ 1999) (nb : nodT b ≤ 1999) : evalFn Tryz.prog cfg4 n (d+2) 37 [.tree (.str w_pp), .tree (.sl (cellsK (a :: b :: r)) (a :: b :: r).length g)] = some (.tree (.tup [encT ((ppR a b).1), .bool ((ppR a b).2)]), [[], []]) := by
  rw [evalFn_go _ Tryz.func37 (by unfold Tryz.f37; rfl) (by unfold Tryz.f37; decide) (Nat.le_of_ble_eq_true (by unfold Tryz.f37; rfl)) (by kernel_rfl)]
  have w0 : (w_pp == ([101, 108, 101, 109, 101, 110, 116] : List UInt8)) = false := by decide
  have w1 : (w_pp == ([43, 43] : List UInt8)) = true := by decide
  have w2 : (w_pp == ([109, 97, 120] : List UInt8)) = false := by decide
  have w3 : (w_pp == ([109, 105, 110] : List UInt8)) = false := by decide
  have w4 : (w_pp == ([109, 101, 109, 98, 101, 114] : List UInt8)) = false := by decide
  have w5 : (w_pp == ([115, 101, 116, 101, 108, 101, 109, 101, 110, 116] : List UInt8)) = false := by decide
  have c1 := fun D st => callA_trees (cfg := cfg4) (d := D) (s := st) (f := 55) (vs := [encT a]) rfl (ev4 (n := n) (d := d) rfl rfl (rItemsA_eq 9223372036854775808 6189 a na (by decide)))
  have c2 := fun D st => callA_trees (cfg := cfg4) (d := D) (s := st) (f := 55) (vs := [encT b]) rfl (ev4 (n := n) (d := d) rfl rfl (rItemsA_eq 9223372036854775808 6189 b nb (by decide)))
  have l0 := fun st => ld_KW st a (b :: r)
  have l1 := fun st => ld_KW st b r
  obtain ⟨x2, o2, h2⟩ := itemsV_tup (itemsT b)
  rw [h2] at c2
  cases hI : itemsT a with
  | none =>
    rw [hI] at c1
    rw [ppR_no a b hI]
    simp only [itemsV, encT] at c1 c2
    simp only [simB, keep4, Nat.reduceBEq, own4, String.reduceAppend, String.reduceBEq, Bool.or_false, Bool.or_true, Bool.or_self, ↓reduceIte, Nat.reduceEqDiff, Nat.reduceAdd, simA, simL, simN, Nat.zero_add, zex, List.toList_toArray, len9, ix9, zey, zez, zfa, zfb, zfc, simV, zeroT, s_eqlS, w0, w1, w2, w3, w4, w5, ia_0W, ia_1W, l0, l1, c1, c2, lenTk, zdu, bdT_00, st_Tt, stT_6]
    exact finish_T2 _ _ _ _ _ (T0) _ _ _ _ _ (by simp only [zfr, ↓reduceIte, Nat.reduceEqDiff]; try rfl) (by simp only [zfr, ↓reduceIte, Nat.reduceEqDiff]; try rfl) (by simp only [zfr, ↓reduceIte, Nat.reduceEqDiff]; try rfl) rfl
  | some us =>
    rw [hI] at c1
    have hil := items_len a us hI
    rw [ppR_yes a b us hI]
    have hT := okTreeW us (gr (kgOf us)) (by unfold kgOf; split <;> rfl)
    have cl := fun D st => callA_trees (cfg := cfg4) (d := D) (s := st) (f := 16) (vs := [.sl (cellsK us) us.length (gr (kgOf us)), encT b]) (by simp only [List.all_cons, hT]; rfl) (ev4 (n := n) (d := d) rfl rfl (rList_eq 9223372036854775808 6189 us (gr (kgOf us)) b (by omega) (by omega)))
    simp only [itemsV, encT] at c1 c2 cl
    simp only [simB, keep4, Nat.reduceBEq, own4, String.reduceAppend, String.reduceBEq, Bool.or_false, Bool.or_true, Bool.or_self, ↓reduceIte, Nat.reduceEqDiff, Nat.reduceAdd, simA, simL, simN, Nat.zero_add, zex, List.toList_toArray, len9, ix9, zey, zez, zfa, zfb, zfc, simV, zeroT, s_eqlS, w0, w1, w2, w3, w4, w5, ia_0W, ia_1W, l0, l1, c1, c2, lenTk, zdu, bdT_00, st_Tt, stT_6, cl]
    exact finish_T2 _ _ _ _ _ (listT us b) _ _ _ _ _ (by simp only [zfr, ↓reduceIte, Nat.reduceEqDiff]; try rfl) (by simp only [zfr, ↓reduceIte, Nat.reduceEqDiff]; try rfl) (by simp only [zfr, ↓reduceIte, Nat.reduceEqDiff]; try rfl) rfl

set_option maxHeartbeats 8000000 in
theorem rmore_max (n d : Nat) (a b : T) (r : List T) (g : Grip) (_hg : g.isTok = false) (na : nodT a ≤ 1999) (nb : nodT b ≤ 1999) (ba : bigT 9223372036854775808 a) (bb : bigT 9223372036854775808 b) (hn : nodT a ≤ 1000) : evalFn Tryz.prog cfg4 n (d+2) 37 [.tree (.str w_max), .tree (.sl (cellsK (a :: b :: r)) (a :: b :: r).length g)] = some (.tree (.tup [encT (maxX a b), .bool (true)]), [[], []]) := by
  rw [evalFn_go _ Tryz.func37 (by unfold Tryz.f37; rfl) (by unfold Tryz.f37; decide) (Nat.le_of_ble_eq_true (by unfold Tryz.f37; rfl)) (by kernel_rfl)]
  have w0 : (w_max == ([101, 108, 101, 109, 101, 110, 116] : List UInt8)) = false := by decide
  have w1 : (w_max == ([43, 43] : List UInt8)) = false := by decide
  have w2 : (w_max == ([109, 97, 120] : List UInt8)) = true := by decide
  have w3 : (w_max == ([109, 105, 110] : List UInt8)) = false := by decide
  have w4 : (w_max == ([109, 101, 109, 98, 101, 114] : List UInt8)) = false := by decide
  have w5 : (w_max == ([115, 101, 116, 101, 108, 101, 109, 101, 110, 116] : List UInt8)) = false := by decide
  have c1 := fun D st => callA_trees (cfg := cfg4) (d := D) (s := st) (f := 55) (vs := [encT a]) rfl (ev4 (n := n) (d := d) rfl rfl (rItemsA_eq 9223372036854775808 6189 a na (by decide)))
  have c2 := fun D st => callA_trees (cfg := cfg4) (d := D) (s := st) (f := 55) (vs := [encT b]) rfl (ev4 (n := n) (d := d) rfl rfl (rItemsA_eq 9223372036854775808 6189 b nb (by decide)))
  have l0 := fun st => ld_KW st a (b :: r)
  have l1 := fun st => ld_KW st b r
  obtain ⟨x1, o1, h1⟩ := itemsV_tup (itemsT a)
  rw [h1] at c1
  obtain ⟨x2, o2, h2⟩ := itemsV_tup (itemsT b)
  rw [h2] at c2
  simp only [encT] at c1 c2
  have ct := callQ_trees (f := 19) (vs := [encT a, encT b]) rfl (ev4 (n := n) (d := d) rfl rfl (rcmpX_R a b ba bb hn))
  simp only [encT] at ct
  by_cases h : cmpX a b < 0
  · have e : maxX a b = b := if_neg (by omega)
    rw [e]
    simp only [simB, keep4, Nat.reduceBEq, own4, String.reduceAppend, String.reduceBEq, Bool.or_false, Bool.or_true, Bool.or_self, ↓reduceIte, Nat.reduceEqDiff, Nat.reduceAdd, simA, simL, simN, Nat.zero_add, zex, List.toList_toArray, len9, ix9, zey, zez, zfa, zfb, zfc, simV, zeroT, s_eqlS, w0, w1, w2, w3, w4, w5, ia_0W, ia_1W, l0, l1, c1, c2, lenTk, zdu, bdT_00, st_Tt, stT_6, ct, h]
    exact finish_T2 _ _ _ _ _ (b) _ _ _ _ _ (by simp only [zfr, ↓reduceIte, Nat.reduceEqDiff]; try rfl) (by simp only [zfr, ↓reduceIte, Nat.reduceEqDiff]; try rfl) (by simp only [zfr, ↓reduceIte, Nat.reduceEqDiff]; try rfl) rfl
  · have e : maxX a b = a := if_pos (by omega)
    rw [e]
    simp only [simB, keep4, Nat.reduceBEq, own4, String.reduceAppend, String.reduceBEq, Bool.or_false, Bool.or_true, Bool.or_self, ↓reduceIte, Nat.reduceEqDiff, Nat.reduceAdd, simA, simL, simN, Nat.zero_add, zex, List.toList_toArray, len9, ix9, zey, zez, zfa, zfb, zfc, simV, zeroT, s_eqlS, w0, w1, w2, w3, w4, w5, ia_0W, ia_1W, l0, l1, c1, c2, lenTk, zdu, bdT_00, st_Tt, stT_6, ct, h]
    exact finish_T2 _ _ _ _ _ (a) _ _ _ _ _ (by simp only [zfr, ↓reduceIte, Nat.reduceEqDiff]; try rfl) (by simp only [zfr, ↓reduceIte, Nat.reduceEqDiff]; try rfl) (by simp only [zfr, ↓reduceIte, Nat.reduceEqDiff]; try rfl) rfl

set_option maxHeartbeats 8000000 in
theorem rmore_min (n d : Nat) (a b : T) (r : List T) (g : Grip) (_hg : g.isTok = false) (na : nodT a ≤ 1999) (nb : nodT b ≤ 1999) (ba : bigT 9223372036854775808 a) (bb : bigT 9223372036854775808 b) (hn : nodT a ≤ 1000) : evalFn Tryz.prog cfg4 n (d+2) 37 [.tree (.str w_min), .tree (.sl (cellsK (a :: b :: r)) (a :: b :: r).length g)] = some (.tree (.tup [encT (minX a b), .bool (true)]), [[], []]) := by
  rw [evalFn_go _ Tryz.func37 (by unfold Tryz.f37; rfl) (by unfold Tryz.f37; decide) (Nat.le_of_ble_eq_true (by unfold Tryz.f37; rfl)) (by kernel_rfl)]
  have w0 : (w_min == ([101, 108, 101, 109, 101, 110, 116] : List UInt8)) = false := by decide
  have w1 : (w_min == ([43, 43] : List UInt8)) = false := by decide
  have w2 : (w_min == ([109, 97, 120] : List UInt8)) = false := by decide
  have w3 : (w_min == ([109, 105, 110] : List UInt8)) = true := by decide
  have w4 : (w_min == ([109, 101, 109, 98, 101, 114] : List UInt8)) = false := by decide
  have w5 : (w_min == ([115, 101, 116, 101, 108, 101, 109, 101, 110, 116] : List UInt8)) = false := by decide
  have c1 := fun D st => callA_trees (cfg := cfg4) (d := D) (s := st) (f := 55) (vs := [encT a]) rfl (ev4 (n := n) (d := d) rfl rfl (rItemsA_eq 9223372036854775808 6189 a na (by decide)))
  have c2 := fun D st => callA_trees (cfg := cfg4) (d := D) (s := st) (f := 55) (vs := [encT b]) rfl (ev4 (n := n) (d := d) rfl rfl (rItemsA_eq 9223372036854775808 6189 b nb (by decide)))
  have l0 := fun st => ld_KW st a (b :: r)
  have l1 := fun st => ld_KW st b r
  obtain ⟨x1, o1, h1⟩ := itemsV_tup (itemsT a)
  rw [h1] at c1
  obtain ⟨x2, o2, h2⟩ := itemsV_tup (itemsT b)
  rw [h2] at c2
  simp only [encT] at c1 c2
  have ct := callQ_trees (f := 19) (vs := [encT a, encT b]) rfl (ev4 (n := n) (d := d) rfl rfl (rcmpX_R a b ba bb hn))
  simp only [encT] at ct
  by_cases h : cmpX a b > 0
  · have e : minX a b = b := if_neg (by omega)
    rw [e]
    simp only [simB, keep4, Nat.reduceBEq, own4, String.reduceAppend, String.reduceBEq, Bool.or_false, Bool.or_true, Bool.or_self, ↓reduceIte, Nat.reduceEqDiff, Nat.reduceAdd, simA, simL, simN, Nat.zero_add, zex, List.toList_toArray, len9, ix9, zey, zez, zfa, zfb, zfc, simV, zeroT, s_eqlS, w0, w1, w2, w3, w4, w5, ia_0W, ia_1W, l0, l1, c1, c2, lenTk, zdu, bdT_00, st_Tt, stT_6, ct, h]
    exact finish_T2 _ _ _ _ _ (b) _ _ _ _ _ (by simp only [zfr, ↓reduceIte, Nat.reduceEqDiff]; try rfl) (by simp only [zfr, ↓reduceIte, Nat.reduceEqDiff]; try rfl) (by simp only [zfr, ↓reduceIte, Nat.reduceEqDiff]; try rfl) rfl
  · have e : minX a b = a := if_pos (by omega)
    rw [e]
    simp only [simB, keep4, Nat.reduceBEq, own4, String.reduceAppend, String.reduceBEq, Bool.or_false, Bool.or_true, Bool.or_self, ↓reduceIte, Nat.reduceEqDiff, Nat.reduceAdd, simA, simL, simN, Nat.zero_add, zex, List.toList_toArray, len9, ix9, zey, zez, zfa, zfb, zfc, simV, zeroT, s_eqlS, w0, w1, w2, w3, w4, w5, ia_0W, ia_1W, l0, l1, c1, c2, lenTk, zdu, bdT_00, st_Tt, stT_6, ct, h]
    exact finish_T2 _ _ _ _ _ (a) _ _ _ _ _ (by simp only [zfr, ↓reduceIte, Nat.reduceEqDiff]; try rfl) (by simp only [zfr, ↓reduceIte, Nat.reduceEqDiff]; try rfl) (by simp only [zfr, ↓reduceIte, Nat.reduceEqDiff]; try rfl) rfl

set_option maxHeartbeats 8000000 in
theorem rmore_member (n d : Nat) (a b : T) (r : List T) (g : Grip) (_hg : g.isTok = false) (na : nodT a ≤ 1999) (nb : nodT b ≤ 1999) (hf : fewT 100000 b) (hn : 2000 < n) : evalFn Tryz.prog cfg4 n (d+2) 37 [.tree (.str w_member), .tree (.sl (cellsK (a :: b :: r)) (a :: b :: r).length g)] = some (.tree (.tup [encT ((memT a b).1), .bool ((memT a b).2)]), [[], []]) := by
  rw [evalFn_go _ Tryz.func37 (by unfold Tryz.f37; rfl) (by unfold Tryz.f37; decide) (Nat.le_of_ble_eq_true (by unfold Tryz.f37; rfl)) (by kernel_rfl)]
  have w0 : (w_member == ([101, 108, 101, 109, 101, 110, 116] : List UInt8)) = false := by decide
  have w1 : (w_member == ([43, 43] : List UInt8)) = false := by decide
  have w2 : (w_member == ([109, 97, 120] : List UInt8)) = false := by decide
  have w3 : (w_member == ([109, 105, 110] : List UInt8)) = false := by decide
  have w4 : (w_member == ([109, 101, 109, 98, 101, 114] : List UInt8)) = true := by decide
  have w5 : (w_member == ([115, 101, 116, 101, 108, 101, 109, 101, 110, 116] : List UInt8)) = false := by decide
  have c1 := fun D st => callA_trees (cfg := cfg4) (d := D) (s := st) (f := 55) (vs := [encT a]) rfl (ev4 (n := n) (d := d) rfl rfl (rItemsA_eq 9223372036854775808 6189 a na (by decide)))
  have c2 := fun D st => callA_trees (cfg := cfg4) (d := D) (s := st) (f := 55) (vs := [encT b]) rfl (ev4 (n := n) (d := d) rfl rfl (rItemsA_eq 9223372036854775808 6189 b nb (by decide)))
  have l0 := fun st => ld_KW st a (b :: r)
  have l1 := fun st => ld_KW st b r
  obtain ⟨x1, o1, h1⟩ := itemsV_tup (itemsT a)
  rw [h1] at c1
  cases hI : itemsT b with
  | none =>
    rw [hI] at c2
    rw [mem_none a b hI]
    simp only [itemsV, encT] at c1 c2
    simp only [simB, keep4, Nat.reduceBEq, own4, String.reduceAppend, String.reduceBEq, Bool.or_false, Bool.or_true, Bool.or_self, ↓reduceIte, Nat.reduceEqDiff, Nat.reduceAdd, simA, simL, simN, Nat.zero_add, zex, List.toList_toArray, len9, ix9, zey, zez, zfa, zfb, zfc, simV, zeroT, s_eqlS, w0, w1, w2, w3, w4, w5, ia_0W, ia_1W, l0, l1, c1, c2, lenTk, zdu, bdT_00, st_Tt, stT_6]
    exact finish_T2 _ _ _ _ _ (T0) _ _ _ _ _ (by simp only [zfr, ↓reduceIte, Nat.reduceEqDiff]; try rfl) (by simp only [zfr, ↓reduceIte, Nat.reduceEqDiff]; try rfl) (by simp only [zfr, ↓reduceIte, Nat.reduceEqDiff]; try rfl) rfl
  | some us =>
  rw [hI] at c2
  simp only [itemsV, encT] at c1 c2
  have hlen := items_len b us hI
  have hnk := items_nod b us hI
  have hfk := items_few 100000 b us hI hf
  have cat := fun z D st => callA_trees (cfg := cfg4) (d := D) (s := st) (f := 30) (vs := [.str z]) rfl (ev4 (n := n) (d := d) rfl rfl (ratom_eq 9223372036854775808 6189 z))
  have ca1 := cat sTrue
  have ca2 := cat sFalse
  simp only [encT, sTrue, sFalse] at ca1 ca2
  simp only [simB, keep4, Nat.reduceBEq, own4, String.reduceAppend, String.reduceBEq, Bool.or_false, Bool.or_true, Bool.or_self, ↓reduceIte, Nat.reduceEqDiff, Nat.reduceAdd, simA, simL, simN, Nat.zero_add, zex, List.toList_toArray, len9, ix9, zey, zez, zfa, zfb, zfc, simV, zeroT, s_eqlS, w0, w1, w2, w3, w4, w5, ia_0W, ia_1W, l0, l1, c1, c2, lenTk, zdu, bdT_00, st_Tt, stT_6, den_loop]
  refine loop_ends (X := Nat) (fun i env st => env 1 = .sl (cellsK (a :: b :: r)) (a :: b :: r).length g ∧ env 4 = .ptr 4 1 0 ∧ st 4 = ⟨1, .buf [.int .i64 0, .bool false, .sl [] 0 .nil, .str [], .int .i64 0, .sl [] 0 .nil]⟩ ∧ env 8 = .sl (cellsK us) us.length (gr (kgOf us)) ∧ env 10 = .int .i64 (i : Int) ∧ i ≤ us.length ∧ memX a us = memX a (us.drop i)) (fun i => us.length - i) (fun _ => (.tree (.tup [encT (memT a b).1, .bool (memT a b).2]), [[], []])) ?_ n 0 _ _ (by omega) ⟨(by simp only [zfr, ↓reduceIte, Nat.reduceEqDiff, env0, List.getElem?_cons_zero, List.getElem?_cons_succ]; try rfl), (by simp only [zfr, ↓reduceIte, Nat.reduceEqDiff]; try rfl), (by simp only [zfr, ↓reduceIte, Nat.reduceEqDiff]; try rfl), (by simp only [zfr, ↓reduceIte, Nat.reduceEqDiff]; try rfl), (by simp only [zfr, ↓reduceIte, Nat.reduceEqDiff]; try rfl), Nat.zero_le _, rfl⟩
  intro rr i hx ih env st ⟨e1, e4, j4, e8, e10, hi, hm⟩
  cases hda : us.drop i with
  | nil =>
    have hil : i = us.length := by have := congrArg List.length hda; simp only [List.length_drop, List.length_nil] at this; omega
    have q1 : ¬ (i : Int) < (us.length : Int) := by omega
    rw [hda] at hm
    rw [mem_not a b us hI hm]
    simp only [simB, keep4, Nat.reduceBEq, own4, String.reduceAppend, String.reduceBEq, Bool.or_false, Bool.or_true, Bool.or_self, ↓reduceIte, Nat.reduceEqDiff, Nat.reduceAdd, simA, simL, simN, Nat.zero_add, zex, List.toList_toArray, len9, ix9, zey, zez, zfa, zfb, zfc, zeroT, e1, e4, e8, e10, j4, lenTk, q1, ca2, st_Tt, stT_6]
    exact finish_T2 _ _ _ _ _ (atomT sFalse) _ _ _ _ _ (by simp only [zfr, ↓reduceIte, Nat.reduceEqDiff, e4]; try rfl) (by simp only [zfr, ↓reduceIte, Nat.reduceEqDiff]; try rfl) (by simp only [zfr, ↓reduceIte, Nat.reduceEqDiff]; try rfl) rfl
  | cons x q =>
    have hil : i < us.length := by have := congrArg List.length hda; simp only [List.length_drop, List.length_cons] at this; omega
    have q1 : (i : Int) < (us.length : Int) := by omega
    have ia := fun st => ia_K st us (gr (kgOf us)) i hil
    have hmd := memX_drop a us i x q hda
    rw [hda] at ia
    have ld := fun st => ld_K st x q
    simp only [encT] at ld
    have hxm : x ∈ us := by have : x ∈ us.drop i := by rw [hda]; simp
                            exact List.mem_of_mem_drop this
    have cs := callQ_trees (f := 18) (vs := [encT x, encT a]) rfl (ev4 (n := n) (d := d) rfl rfl (rsameX_R x a (fewK_mem hfk x hxm) (by have := kids_nod us i x q hda; omega)))
    simp only [encT] at cs
    have f5 := i_add Tryz.prog 3 (i : Int) 1 (by omega) (by omega)
    cases hsm : sameT x a with
    | true =>
      rw [hsm] at cs
      rw [hmd, hsm, Bool.true_or] at hm
      rw [mem_yes a b us hI hm]
      simp only [simB, keep4, Nat.reduceBEq, own4, String.reduceAppend, String.reduceBEq, Bool.or_false, Bool.or_true, Bool.or_self, ↓reduceIte, Nat.reduceEqDiff, Nat.reduceAdd, simA, simL, simN, Nat.zero_add, zex, List.toList_toArray, len9, ix9, zey, zez, zfa, zfb, zfc, zeroT, e1, e4, e8, e10, j4, lenTk, q1, ia, ld, ia_0W, l0, cs, ca1, st_Tt, stT_6]
      exact finish_T2 _ _ _ _ _ (atomT sTrue) _ _ _ _ _ (by simp only [zfr, ↓reduceIte, Nat.reduceEqDiff, e4]; try rfl) (by simp only [zfr, ↓reduceIte, Nat.reduceEqDiff]; try rfl) (by simp only [zfr, ↓reduceIte, Nat.reduceEqDiff]; try rfl) rfl
    | false =>
      rw [hsm] at cs
      rw [hmd, hsm, Bool.false_or] at hm
      simp only [simB, keep4, Nat.reduceBEq, own4, String.reduceAppend, String.reduceBEq, Bool.or_false, Bool.or_true, Bool.or_self, ↓reduceIte, Nat.reduceEqDiff, Nat.reduceAdd, simA, simL, simN, Nat.zero_add, zex, List.toList_toArray, len9, ix9, zey, zez, zfa, zfb, zfc, zeroT, e1, e4, e8, e10, j4, lenTk, q1, ia, ld, ia_0W, l0, cs, f5]
      exact ih (i + 1) _ _ (by omega) rfl ⟨(by simp only [zfr, ↓reduceIte, Nat.reduceEqDiff, e1]; try rfl), (by simp only [zfr, ↓reduceIte, Nat.reduceEqDiff, e4]; try rfl), (by simp only [zfr, ↓reduceIte, Nat.reduceEqDiff, j4]; try rfl), (by simp only [zfr, ↓reduceIte, Nat.reduceEqDiff, e8]; try rfl), (by simp only [zfr, ↓reduceIte, Nat.reduceEqDiff]; try rfl), by omega, hm⟩
end Go.Ab

/- setelement of any terms: bif.answer of three, relictref19.more (CFG4). Conditions: limbs in range; so many nodes at most. -/
namespace Go.Ab
open Go.Proofs
set_option maxRecDepth 100000
set_option linter.unusedSimpArgs false

theorem moreV (s : St) (us : List T) (g : Grip) : moreA Tryz.prog 29 6 (some 22) s (.sl (cellsK us) us.length g) = some (cellsK us, us.length) := by
  simp only [moreA, Option.map_some, tkTk, cellsK_len, ↓reduceIte]
theorem appendO_cV (d : Nat) (s : St) (us : List T) (g : Grip) (h1 : us ≠ []) (h2 : us.length ≤ 1000000) : appendO Tryz.prog #[22, 22] d s (.sl [] 0 .tight) (.sl (cellsK us) us.length g) = some (.own d ((s d).t + 1) 0 us.length 6, upd s d ⟨(s d).t + 1, .buf (cellsK us)⟩) := by
  have h3 : 1 ≤ us.length := List.length_pos_iff.mpr h1
  simp only [appendO, List.getElem?_toArray, List.getElem?_cons_zero, List.getElem?_cons_succ, Option.map_some, tkTk, eszT, Option.bind_some, moreV, zl28, ↓reduceIte, or_true, true_and]
  rw [if_pos ⟨h3, roomJ us.length (by omega)⟩]
theorem appendO_nV (d : Nat) (s : St) (us : List T) (g : Grip) (h1 : us ≠ []) (h2 : us.length ≤ 1000000) : appendO Tryz.prog #[22, 22] d s (.sl [] 0 .nil) (.sl (cellsK us) us.length g) = some (.own d ((s d).t + 1) 0 us.length 6, upd s d ⟨(s d).t + 1, .buf (cellsK us)⟩) := by
  have h3 : 1 ≤ us.length := List.length_pos_iff.mpr h1
  simp only [appendO, List.getElem?_toArray, List.getElem?_cons_zero, List.getElem?_cons_succ, Option.map_some, tkTk, eszT, Option.bind_some, moreV, zl28, ↓reduceIte, true_or, true_and]
  rw [if_pos ⟨h3, roomJ us.length (by omega)⟩]
theorem k_eqlV (us : List T) (h1 : us ≠ []) : binA Tryz.prog .eql 22 (.sl (cellsK us) us.length .loose) (.sl [] 0 .nil) = some (.bool false) := by
  have h3 : 0 < us.length := List.length_pos_iff.mpr h1
  simp only [binA, tkTk, nilA, h3, if_true, eqA, Option.map_some]
theorem opA_bsV (call : FuncId → List Arg → Option Out) (q : Bool) (d : Option Tmp) (ty : TypeId) (pos : String) (af : Array Edge) (g : Option (Nat × Bool)) (t : Nat) (env : Env) (s : St) :
    opA Tryz.prog cfg4 call q ⟨d, .buildSlice 22 0 #[], ty, pos, af, g⟩ t env s = some (.sl [] 0 .tight, s) := by
  simp only [opA, tkTk, eszT, zeroT, Option.bind_some, List.map_nil]
  rfl
theorem clone4_eq (n d : Nat) (us : List T) (h1 : us ≠ []) (h2 : us.length ≤ 1000000) : evalFn Tryz.prog cfg4 n (d+1) 64 [.tree (.sl (cellsK us) us.length .loose)] = some (.own (cellsK us) us.length 6, [[]]) := by
  rw [evalFn_go _ Tryz.func64 (by unfold Tryz.f64; rfl) (by unfold Tryz.f64; decide) (Nat.le_of_ble_eq_true (by unfold Tryz.f64; rfl)) (by kernel_rfl)]
  have c1 := fun d s => appendO_cV d s us .loose h1 h2
  have c2 := k_eqlV us h1
  simp only [simB, keep4, Nat.reduceBEq, own4, String.reduceAppend, String.reduceBEq, Bool.or_false, Bool.or_true, Bool.or_self, ↓reduceIte, Nat.reduceEqDiff, Nat.reduceAdd, simA, simL, simN, Nat.zero_add, c2, opA_bsV, c1]
  simp [finishP_t1, finish, finish1, cellsK_len, outsA]
theorem callA_ownV {call : FuncId → List Arg → Option Out} {d : Nat} {s : St} {f : FuncId} {v : AV} {xs : List AV} {len e : Nat} (ht : isTree v = true) (hc : call f [.tree v] = some (.own xs len e, [[]])) : callA cfg4 call d s f [v] = some (.own d ((s d).t + 1) 0 len e, upd s d ⟨(s d).t + 1, .buf xs⟩) := by
  have h1 : argsA cfg4 f s 0 [v] = some [.tree v] := argsA_trees f s [v] 0 (by simpa using ht)
  have h2 : givesL [v] [Arg.tree v] = [] := givesL_trees [v]
  have h3 : lendsL [v] [Arg.tree v] = [] := lendsL_trees [v] (by simpa using ht)
  have h4 : backA s [v] [Arg.tree v] [[]] = some s := backA_trees s [v]
  simp only [callA, h1, Option.bind_some, h2, h3, List.nodup_nil, List.not_mem_nil, false_implies, implies_true, and_self, if_true, hc, List.foldl_nil, ite_self, h4, resA]
theorem faR_V (s : St) (k : Int) (b : Bool) (lg : Gk) (l : List Nat) (x : List UInt8) (n : Int) (kg : Gk) (us : List T) (r : List T) : fieldAddrA Tryz.prog 29 s (.rptr (cellsK (.mk k b lg l x n kg us :: r))) 4 = some (.rptr (.sl (cellsK us) us.length (gr kg) :: cellsK r)) := by
  simp only [fieldAddrA, fdT4, eszTk]
  rfl
theorem ldR_V (s : St) (xs : List AV) (n : Nat) (g : Grip) (r : List AV) : loadA Tryz.prog 22 s (.rptr (.sl xs n g :: r)) = some (.sl xs n g) := by
  simp only [loadA, partA, shTk]
  rfl
theorem buildO_V (s : St) (p t : Nat) (us : List T) (hs : s p = ⟨t, .buf (cellsK us)⟩) : buildO Tryz.prog 29 s [(0, .int .i64 5), (4, .own p t 0 us.length 6)] = some (.agg (cellsT (tupT .l us)), upd s p ⟨t, .frz (cellsK us)⟩) := by
  have e : ((cellsK us).drop 0).take (us.length * 6) = cellsK us := by rw [List.drop_zero, List.take_of_length_le (by rw [cellsK_len]; exact Nat.le_refl _)]
  simp only [buildO, settleP, settle, Option.bind_some, Option.map_some, hs]
  rw [if_pos ⟨trivial, by rw [cellsK_len]; omega⟩]
  simp only [Option.bind_some, Option.map_some, e, zeroT, tkT, plT]
  rfl
theorem ia_a (st : St) (a b c : T) (g : Grip) : indexAddrA Tryz.prog 22 st (.sl (cellsK [a, b, c]) 3 g) (.int .i64 0) = some (.rptr (cellsK [a, b, c])) := ia_K st [a, b, c] g 0 (by simp)
theorem ia_b (st : St) (a b c : T) (g : Grip) : indexAddrA Tryz.prog 22 st (.sl (cellsK [a, b, c]) 3 g) (.int .i64 1) = some (.rptr (cellsK [b, c])) := ia_K st [a, b, c] g 1 (by simp)
theorem ia_c (st : St) (a b c : T) (g : Grip) : indexAddrA Tryz.prog 22 st (.sl (cellsK [a, b, c]) 3 g) (.int .i64 2) = some (.rptr (cellsK [c])) := ia_K st [a, b, c] g 2 (by simp)
theorem lenV3 (s : St) (xs : List AV) (g : Grip) : lenA Tryz.prog 22 s (.sl xs 3 g) = some (.int .i64 3) := lenTk s xs 3 g
theorem place_ne (a b : T) (h : PlaceP a b) : kidsT b ≠ [] := fun e => by
  have := h.2.2.2
  rw [e] at this
  simp only [List.length_nil] at this
  omega
set_option maxHeartbeats 8000000 in
theorem banswer3_bad (n d : Nat) (name : List UInt8) (a b c : T) (g : Grip) (la : Limbs (limT a)) (hq : ¬ PlaceP a b) :
    evalFn Tryz.prog cfg4 n (d+2) 34 [.tree (.str name), .tree (.sl (cellsK [a, b, c]) 3 g)] = some (.tree (.tup [encT T0, .bool false]), [[], []]) := by
  rw [evalFn_go _ Tryz.func34 (by unfold Tryz.f34; rfl) (by unfold Tryz.f34; decide) (Nat.le_of_ble_eq_true (by unfold Tryz.f34; rfl)) (by kernel_rfl)]
  obtain ⟨w, hw, hp⟩ := placeA_eq 9223372036854775808 6186 (by decide) a b la
  have hp := hp false ⟨(fun h => by cases h), fun h => absurd h hq⟩
  have c1 := callQ_trees (f := 56) (vs := [encT a, encT b]) rfl (ev4 (n := n) (d := d) rfl rfl hp)
  have l0 := fun st => ld_KW st a [b, c]
  have l1 := fun st => ld_KW st b [c]
  simp only [encT] at c1
  simp only [simB, keep4, Nat.reduceBEq, own4, String.reduceAppend, String.reduceBEq, Bool.or_false, Bool.or_true, Bool.or_self, ↓reduceIte, Nat.reduceEqDiff, Nat.reduceAdd, simA, simL, simN, Nat.zero_add, zeroT, lenV3, i_eqlV, Int.reduceBEq, ia_a, ia_b, l0, l1, c1, zdu, unA_not', Bool.not_false, bdT_00, st_Tt, stT_6]
  exact finish_T2 _ _ _ _ _ T0 _ _ _ _ _ (by simp only [zfr, ↓reduceIte, Nat.reduceEqDiff]; try rfl) (by simp only [zfr, ↓reduceIte, Nat.reduceEqDiff]; try rfl) (by simp only [zfr, ↓reduceIte, Nat.reduceEqDiff]; try rfl) rfl
set_option maxHeartbeats 8000000 in
theorem banswer3_ok (n d : Nat) (name : List UInt8) (a b c : T) (g : Grip) (la : Limbs (limT a)) (hq : PlaceP a b) (hkg : ∃ k b1 lg l x m, b = .mk k b1 lg l x m .l (kidsT b)) (hl : (kidsT b).length ≤ 1000) :
    evalFn Tryz.prog cfg4 n (d+2) 34 [.tree (.str name), .tree (.sl (cellsK [a, b, c]) 3 g)] = some (.tree (.tup [encT (tupT .l ((kidsT b).set ((zOfT a).toNat - 1) c)), .bool true]), [[], []]) := by
  rw [evalFn_go _ Tryz.func34 (by unfold Tryz.f34; rfl) (by unfold Tryz.f34; decide) (Nat.le_of_ble_eq_true (by unfold Tryz.f34; rfl)) (by kernel_rfl)]
  obtain ⟨w, hw, hp⟩ := placeA_eq 9223372036854775808 6186 (by decide) a b la
  have hp := hp true ⟨fun _ => hq, fun _ => rfl⟩
  have hpd := place_drop a b hq
  rw [hw hq, ← hpd.2.1] at hp
  have hne := place_ne a b hq
  have c1 := callQ_trees (f := 56) (vs := [encT a, encT b]) rfl (ev4 (n := n) (d := d) rfl rfl hp)
  obtain ⟨k, b1, lg, l, x, m, hb⟩ := hkg
  have l0 := fun st => ld_KW st a [b, c]
  have l1 := fun st => ld_KW st b [c]
  have l2 := fun st => ld_KW st c []
  obtain ⟨us, hus⟩ : ∃ us, kidsT b = us := ⟨_, rfl⟩
  rw [hus] at hb hl hne hpd ⊢
  obtain ⟨i, hie⟩ : ∃ i, (zOfT a).toNat - 1 = i := ⟨_, rfl⟩
  rw [hie] at c1 hpd ⊢
  have fa := fun st => faR_V st k b1 lg l x m .l us [c]
  rw [← hb] at fa
  have c2 := fun D st => callA_ownV (d := D) (s := st) (f := 64) (v := .sl (cellsK us) us.length .loose) rfl (clone4_eq n d us hne (by omega))
  have hi := hpd.1
  have q1 : (0 : Int) ≤ ((i : Nat) : Int) := by omega
  have q2 : ((i : Nat) : Int) < (us.length : Int) := by omega
  have gl : gr .l = .loose := rfl
  have bo := fun s p t hs => buildO_V s p t (us.set i c) hs
  rw [List.length_set] at bo
  simp only [encT] at c1
  simp only [simB, keep4, Nat.reduceBEq, own4, String.reduceAppend, String.reduceBEq, Bool.or_false, Bool.or_true, Bool.or_self, ↓reduceIte, Nat.reduceEqDiff, Nat.reduceAdd, simA, simL, simN, Nat.zero_add, zeroT, lenV3, i_eqlV, Int.reduceBEq, ia_a, ia_b, ia_c, l0, l1, l2, c1, zdu, unA_not', Bool.not_true, fa, gl, ldR_V, c2, iaO, cellsE_buf, Option.isSome_some, q1, q2, and_self, Int.toNat_natCast, stO, stOE_K, hi, bo, st_Tt, stT_6]
  exact finish_T2 _ _ _ _ _ (tupT .l (us.set i c)) _ _ _ _ _ (by simp only [zfr, ↓reduceIte, Nat.reduceEqDiff]; try rfl) (by simp only [zfr, ↓reduceIte, Nat.reduceEqDiff]; try rfl) (by simp only [zfr, ↓reduceIte, Nat.reduceEqDiff]; try rfl) rfl
set_option maxHeartbeats 8000000 in
theorem rmore3_bad (n d : Nat) (a b c : T) (g : Grip) (na : nodT a ≤ 1999) (nb : nodT b ≤ 1999) (la : Limbs (limT a)) (hq : ¬ PlaceP a b) :
    evalFn Tryz.prog cfg4 n (d+2) 37 [.tree (.str w_setelement), .tree (.sl (cellsK [a, b, c]) 3 g)] = some (.tree (.tup [encT T0, .bool false]), [[], []]) := by
  rw [evalFn_go _ Tryz.func37 (by unfold Tryz.f37; rfl) (by unfold Tryz.f37; decide) (Nat.le_of_ble_eq_true (by unfold Tryz.f37; rfl)) (by kernel_rfl)]
  have w0 : (w_setelement == ([101, 108, 101, 109, 101, 110, 116] : List UInt8)) = false := by decide
  have w1 : (w_setelement == ([43, 43] : List UInt8)) = false := by decide
  have w2 : (w_setelement == ([109, 97, 120] : List UInt8)) = false := by decide
  have w3 : (w_setelement == ([109, 105, 110] : List UInt8)) = false := by decide
  have w4 : (w_setelement == ([109, 101, 109, 98, 101, 114] : List UInt8)) = false := by decide
  have w5 : (w_setelement == ([115, 101, 116, 101, 108, 101, 109, 101, 110, 116] : List UInt8)) = true := by decide
  have c1 := fun D st => callA_trees (cfg := cfg4) (d := D) (s := st) (f := 55) (vs := [encT a]) rfl (ev4 (n := n) (d := d) rfl rfl (rItemsA_eq 9223372036854775808 6189 a na (by decide)))
  have c2 := fun D st => callA_trees (cfg := cfg4) (d := D) (s := st) (f := 55) (vs := [encT b]) rfl (ev4 (n := n) (d := d) rfl rfl (rItemsA_eq 9223372036854775808 6189 b nb (by decide)))
  have cp := callQ_trees (f := 57) (vs := [encT a, encT b]) rfl (ev4 (n := n) (d := d) rfl rfl (rplaceA_eq 9223372036854775808 6186 (by decide) a b la (-1) (fun h => absurd h hq) (fun _ => rfl)))
  obtain ⟨x1, o1, h1⟩ := itemsV_tup (itemsT a)
  rw [h1] at c1
  obtain ⟨x2, o2, h2⟩ := itemsV_tup (itemsT b)
  rw [h2] at c2
  have l0 := fun st => ld_KW st a [b, c]
  have l1 := fun st => ld_KW st b [c]
  have q1 : ¬ ((-1 : Int) ≥ 0) := by decide
  simp only [encT] at c1 c2 cp
  simp only [simB, keep4, Nat.reduceBEq, own4, String.reduceAppend, String.reduceBEq, Bool.or_false, Bool.or_true, Bool.or_self, ↓reduceIte, Nat.reduceEqDiff, Nat.reduceAdd, simA, simL, simN, Nat.zero_add, zex, List.toList_toArray, len9, ix9, zey, zez, zfa, zfb, zfc, simV, zeroT, s_eqlS, w0, w1, w2, w3, w4, w5, ia_a, ia_b, l0, l1, c1, c2, cp, q1, lenTk, zdu, bdT_00, st_Tt, stT_6]
  exact finish_T2 _ _ _ _ _ T0 _ _ _ _ _ (by simp only [zfr, ↓reduceIte, Nat.reduceEqDiff]; try rfl) (by simp only [zfr, ↓reduceIte, Nat.reduceEqDiff]; try rfl) (by simp only [zfr, ↓reduceIte, Nat.reduceEqDiff]; try rfl) rfl
set_option maxHeartbeats 8000000 in
theorem rmore3_ok (n d : Nat) (a b c : T) (g : Grip) (na : nodT a ≤ 1999) (nb : nodT b ≤ 1999) (la : Limbs (limT a)) (hq : PlaceP a b) (hl : (kidsT b).length ≤ 1000) :
    evalFn Tryz.prog cfg4 n (d+2) 37 [.tree (.str w_setelement), .tree (.sl (cellsK [a, b, c]) 3 g)] = some (.tree (.tup [encT (tupT .l ((kidsT b).set ((zOfT a).toNat - 1) c)), .bool true]), [[], []]) := by
  rw [evalFn_go _ Tryz.func37 (by unfold Tryz.f37; rfl) (by unfold Tryz.f37; decide) (Nat.le_of_ble_eq_true (by unfold Tryz.f37; rfl)) (by kernel_rfl)]
  have w0 : (w_setelement == ([101, 108, 101, 109, 101, 110, 116] : List UInt8)) = false := by decide
  have w1 : (w_setelement == ([43, 43] : List UInt8)) = false := by decide
  have w2 : (w_setelement == ([109, 97, 120] : List UInt8)) = false := by decide
  have w3 : (w_setelement == ([109, 105, 110] : List UInt8)) = false := by decide
  have w4 : (w_setelement == ([109, 101, 109, 98, 101, 114] : List UInt8)) = false := by decide
  have w5 : (w_setelement == ([115, 101, 116, 101, 108, 101, 109, 101, 110, 116] : List UInt8)) = true := by decide
  have hpd := place_drop a b hq
  have hne := place_ne a b hq
  have c1 := fun D st => callA_trees (cfg := cfg4) (d := D) (s := st) (f := 55) (vs := [encT a]) rfl (ev4 (n := n) (d := d) rfl rfl (rItemsA_eq 9223372036854775808 6189 a na (by decide)))
  have c2 := fun D st => callA_trees (cfg := cfg4) (d := D) (s := st) (f := 55) (vs := [encT b]) rfl (ev4 (n := n) (d := d) rfl rfl (rItemsA_eq 9223372036854775808 6189 b nb (by decide)))
  have cp := callQ_trees (f := 57) (vs := [encT a, encT b]) rfl (ev4 (n := n) (d := d) rfl rfl (rplaceA_eq 9223372036854775808 6186 (by decide) a b la (((zOfT a).toNat - 1 : Nat) : Int) (fun _ => hpd.2.1) (fun h => absurd hq h)))
  obtain ⟨x1, o1, h1⟩ := itemsV_tup (itemsT a)
  rw [h1] at c1
  obtain ⟨x2, o2, h2⟩ := itemsV_tup (itemsT b)
  rw [h2] at c2
  have l0 := fun st => ld_KW st a [b, c]
  have l1 := fun st => ld_KW st b [c]
  have l2 := fun st => ld_KW st c []
  obtain ⟨us, hus⟩ : ∃ us, kidsT b = us := ⟨_, rfl⟩
  rw [hus] at hl hne hpd ⊢
  obtain ⟨i, hie⟩ : ∃ i, (zOfT a).toNat - 1 = i := ⟨_, rfl⟩
  rw [hie] at cp hpd ⊢
  obtain ⟨k, b1, lg, l, x, m, kg, us'⟩ := b
  simp only [kidsT] at hus
  subst hus
  have fa := fun st => faR_V st k b1 lg l x m kg us' [c]
  have ap := fun d s => appendO_nV d s us' (gr kg) hne (by omega)
  have hi := hpd.1
  have q0 : ((i : Nat) : Int) ≥ 0 := by omega
  have q1 : (0 : Int) ≤ ((i : Nat) : Int) := by omega
  have q2 : ((i : Nat) : Int) < (us'.length : Int) := by omega
  have bo := fun s p t hs => buildO_V s p t (us'.set i c) hs
  rw [List.length_set] at bo
  simp only [encT] at c1 c2 cp
  simp only [simB, keep4, Nat.reduceBEq, own4, String.reduceAppend, String.reduceBEq, Bool.or_false, Bool.or_true, Bool.or_self, ↓reduceIte, Nat.reduceEqDiff, Nat.reduceAdd, simA, simL, simN, Nat.zero_add, zex, List.toList_toArray, len9, ix9, zey, zez, zfa, zfb, zfc, simV, zeroT, s_eqlS, w0, w1, w2, w3, w4, w5, ia_a, ia_b, ia_c, l0, l1, l2, c1, c2, cp, q0, q1, q2, lenTk, zdu, fa, ldR_V, ap, iaO, cellsE_buf, Option.isSome_some, and_self, Int.toNat_natCast, stO, stOE_K, hi, bo, st_Tt, stT_6]
  exact finish_T2 _ _ _ _ _ (tupT .l (us'.set i c)) _ _ _ _ _ (by simp only [zfr, ↓reduceIte, Nat.reduceEqDiff]; try rfl) (by simp only [zfr, ↓reduceIte, Nat.reduceEqDiff]; try rfl) (by simp only [zfr, ↓reduceIte, Nat.reduceEqDiff]; try rfl) rfl
end Go.Ab
