/- Several texts put together: AbzW3, AbzW4, AbzW5, AbzW6. Conditions: as each part says. -/
import Derived.Test.YtpgnjcckmmkmkaaGreatDoorAbBAllZ07
/- bif.Arith and relictref19.Arith. Conditions: limbs in range. -/
namespace Go.Ab
open Go.Proofs
set_option maxRecDepth 100000
set_option linter.unusedSimpArgs false

def lgT' : T → Gk
  | .mk _ _ lg _ _ _ _ _ => lg
def resA2 (op : Int) (a b : T) : Int × Bool := opR op (numZ (sgnT a) (limT a)) (numZ (sgnT b) (limT b))
def arithT (g : Gk) (op : Int) (a b : T) : T × Bool := if kindT a = 1 ∧ kindT b = 1 ∧ (resA2 op a b).2 = true then (.mk 1 (decide ((resA2 op a b).1 < 0)) g (digs (resA2 op a b).1.natAbs) [] 0 .n [], true) else (T0, false)
theorem arith_no (g : Gk) (op : Int) (a b : T) (h : ¬ (kindT a = 1 ∧ kindT b = 1 ∧ (resA2 op a b).2 = true)) : arithT g op a b = (T0, false) := if_neg h
theorem arith_yes (g : Gk) (op : Int) (a b : T) (v : Int) (h1 : kindT a = 1) (h2 : kindT b = 1) (h : resA2 op a b = (v, true)) : arithT g op a b = (.mk 1 (decide (v < 0)) g (digs v.natAbs) [] 0 .n [], true) := by
  unfold arithT; rw [if_pos ⟨h1, h2, by rw [h]⟩, h]
theorem bare_arith (g g' : Gk) (op : Int) (a b : T) : bareT (arithT g op a b).1 = bareT (arithT g' op a b).1 ∧ (arithT g op a b).2 = (arithT g' op a b).2 := by
  unfold arithT
  split <;> exact ⟨rfl, rfl⟩
theorem bdT_nJ (b : Bool) (g : Gk) (l : List Nat) : buildA Tryz.prog 29 [(0, .int .i64 1), (1, .agg [.bool b, encL g l])] = some (.agg (cellsT (.mk 1 b g l [] 0 .n []))) := bdT_1 1 b g l
set_option maxHeartbeats 8000000 in
theorem arith_eq (R d : Nat) (hR : 100000 ≤ R) (op : Int) (a b : T) (la : Limbs (limT a)) (lb : Limbs (limT b)) : evalFn Tryz.prog cfg0 R (d+8) 20 [.tree (.int .i64 op), .tree (encT a), .tree (encT b)] = some (.tree (.tup [encT (arithT (numG (resA2 op a b).1) op a b).1, .bool (arithT (numG (resA2 op a b).1) op a b).2]), [[], [], []]) := by
  rw [evalFn_go _ Tryz.func20 (by unfold Tryz.f20; rfl) (by unfold Tryz.f20; decide) (Nat.le_of_ble_eq_true (by unfold Tryz.f20; rfl)) (by kernel_rfl)]
  have hop := opN_any R d hR (isN_A (sgnT a) (lgT' a) (limT a) la) (isN_A (sgnT b) (lgT' b) (limT b) lb) op
  obtain ⟨r, hr⟩ : ∃ r, resA2 op a b = r := ⟨_, rfl⟩
  have hr' : opR op (numZ (sgnT a) (limT a)) (numZ (sgnT b) (limT b)) = r := hr
  rw [hr'] at hop
  obtain ⟨k, b1, lg, l, s, m, kg, ks⟩ := a
  obtain ⟨k', b2, lg', l', s', m', kg', ks'⟩ := b
  simp only [sgnT, limT, lgT'] at hop
  by_cases h1 : k = 1
  rotate_left
  · rw [arith_no _ op (.mk k b1 lg l s m kg ks) (.mk k' b2 lg' l' s' m' kg' ks') (fun h => h1 h.1)]
    have w1 : (k != 1) = true := bne_iff_ne.mpr h1
    simp only [simB, zbo, Nat.reduceBEq, own0, ↓reduceIte, Nat.reduceEqDiff, Nat.reduceAdd, env0, List.getElem?_cons_zero, List.getElem?_cons_succ, zdv, zdw, zdx, zdy, zdz, zea, zeb, zec, ia22, ld31, zed, zee, zef, zeg, zeh, zei, zej, zek, zel, zem, zen, zeo, zep, zeq, zer, fa_0, fa_1, zes, bd_0, bd_2, zet, fd_1, zeu, Nat.zero_add, encT, zeroT, cellsT, ldT_0, faT_0, i_neqV, w1, bdT_00, st_Tt, stT_6]
    exact finish_T2 _ _ _ _ _ T0 _ _ _ _ _ (by first | (simp only [zfp, ↓reduceIte, Nat.reduceEqDiff]; done) | (simp only [zfp, ↓reduceIte, Nat.reduceEqDiff]; rfl)) (by first | (simp only [zfp, ↓reduceIte, Nat.reduceEqDiff]; done) | (simp only [zfp, ↓reduceIte, Nat.reduceEqDiff]; rfl)) (by first | (simp only [zfp, ↓reduceIte, Nat.reduceEqDiff]; done) | (simp only [zfp, ↓reduceIte, Nat.reduceEqDiff]; rfl)) rfl
  by_cases h2 : k' = 1
  rotate_left
  · rw [arith_no _ op (.mk k b1 lg l s m kg ks) (.mk k' b2 lg' l' s' m' kg' ks') (fun h => h2 h.2.1)]
    have w1 : (k != 1) = false := by rw [h1]; rfl
    have w2 : (k' != 1) = true := bne_iff_ne.mpr h2
    simp only [simB, zbo, Nat.reduceBEq, own0, ↓reduceIte, Nat.reduceEqDiff, Nat.reduceAdd, env0, List.getElem?_cons_zero, List.getElem?_cons_succ, zdv, zdw, zdx, zdy, zdz, zea, zeb, zec, ia22, ld31, zed, zee, zef, zeg, zeh, zei, zej, zek, zel, zem, zen, zeo, zep, zeq, zer, fa_0, fa_1, zes, bd_0, bd_2, zet, fd_1, zeu, Nat.zero_add, encT, zeroT, cellsT, ldT_0, faT_0, i_neqV, w1, w2, bdT_00, st_Tt, stT_6]
    exact finish_T2 _ _ _ _ _ T0 _ _ _ _ _ (by first | (simp only [zfp, ↓reduceIte, Nat.reduceEqDiff]; done) | (simp only [zfp, ↓reduceIte, Nat.reduceEqDiff]; rfl)) (by first | (simp only [zfp, ↓reduceIte, Nat.reduceEqDiff]; done) | (simp only [zfp, ↓reduceIte, Nat.reduceEqDiff]; rfl)) (by first | (simp only [zfp, ↓reduceIte, Nat.reduceEqDiff]; done) | (simp only [zfp, ↓reduceIte, Nat.reduceEqDiff]; rfl)) rfl
  have w1 : (k != 1) = false := by rw [h1]; rfl
  have w2 : (k' != 1) = false := by rw [h2]; rfl
  have co := fun D st => callA_trees (cfg := cfg0) (d := D) (s := st) (f := 49) (vs := [.int .i64 op, encA b1 lg l, encA b2 lg' l']) (by cases lg <;> cases lg' <;> rfl) hop
  obtain ⟨v, ok⟩ := r
  simp only [encA, tupZ, encZ_G] at co
  cases ok with
  | true =>
    rw [hr, arith_yes _ op (.mk k b1 lg l s m kg ks) (.mk k' b2 lg' l' s' m' kg' ks') v h1 h2 hr]
    simp only [simB, zbo, Nat.reduceBEq, own0, ↓reduceIte, Nat.reduceEqDiff, Nat.reduceAdd, env0, List.getElem?_cons_zero, List.getElem?_cons_succ, zdv, zdw, zdx, zdy, zdz, zea, zeb, zec, ia22, ld31, zed, zee, zef, zeg, zeh, zei, zej, zek, zel, zem, zen, zeo, zep, zeq, zer, fa_0, fa_1, zes, bd_0, bd_2, zet, fd_1, zeu, Nat.zero_add, encT, zeroT, cellsT, ldT_0, ldT_1, faT_0, faT_1, Nat.reduceAdd, i_neqV, w1, w2, co, zds, unA_not', Bool.not_true, bdT_nJ, st_T, stT_buf]
    exact finish_T2 _ _ _ _ _ (.mk 1 (decide (v < 0)) (numG v) (digs v.natAbs) [] 0 .n []) _ _ _ _ _ (by first | (simp only [zfp, ↓reduceIte, Nat.reduceEqDiff]; done) | (simp only [zfp, ↓reduceIte, Nat.reduceEqDiff]; rfl)) (by first | (simp only [zfp, ↓reduceIte, Nat.reduceEqDiff]; done) | (simp only [zfp, ↓reduceIte, Nat.reduceEqDiff]; rfl)) (by first | (simp only [zfp, ↓reduceIte, Nat.reduceEqDiff]; done) | (simp only [zfp, ↓reduceIte, Nat.reduceEqDiff]; rfl)) rfl
  | false =>
    rw [arith_no _ op (.mk k b1 lg l s m kg ks) (.mk k' b2 lg' l' s' m' kg' ks') (fun h => by have := h.2.2; rw [hr] at this; cases this)]
    simp only [simB, zbo, Nat.reduceBEq, own0, ↓reduceIte, Nat.reduceEqDiff, Nat.reduceAdd, env0, List.getElem?_cons_zero, List.getElem?_cons_succ, zdv, zdw, zdx, zdy, zdz, zea, zeb, zec, ia22, ld31, zed, zee, zef, zeg, zeh, zei, zej, zek, zel, zem, zen, zeo, zep, zeq, zer, fa_0, fa_1, zes, bd_0, bd_2, zet, fd_1, zeu, Nat.zero_add, encT, zeroT, cellsT, ldT_0, ldT_1, faT_0, faT_1, Nat.reduceAdd, i_neqV, w1, w2, co, zds, unA_not', Bool.not_false, bdT_00, st_Tt, stT_6]
    exact finish_T2 _ _ _ _ _ T0 _ _ _ _ _ (by first | (simp only [zfp, ↓reduceIte, Nat.reduceEqDiff]; done) | (simp only [zfp, ↓reduceIte, Nat.reduceEqDiff]; rfl)) (by first | (simp only [zfp, ↓reduceIte, Nat.reduceEqDiff]; done) | (simp only [zfp, ↓reduceIte, Nat.reduceEqDiff]; rfl)) (by first | (simp only [zfp, ↓reduceIte, Nat.reduceEqDiff]; done) | (simp only [zfp, ↓reduceIte, Nat.reduceEqDiff]; rfl)) rfl
set_option maxHeartbeats 8000000 in
theorem rarith_eq (R d : Nat) (hR : 100000 ≤ R) (op : Int) (a b : T) (la : Limbs (limT a)) (lb : Limbs (limT b)) : ∃ g, evalFn Tryz.prog cfg0 R (d+8) 22 [.tree (.int .i64 op), .tree (encT a), .tree (encT b)] = some (.tree (.tup [encT (arithT g op a b).1, .bool (arithT g op a b).2]), [[], [], []]) := by
  obtain ⟨g, hop⟩ := opF_any R (d+1) hR (isN_A (sgnT a) (lgT' a) (limT a) la) (isN_A (sgnT b) (lgT' b) (limT b) lb) op
  refine ⟨g, ?_⟩
  rw [evalFn_go _ Tryz.func22 (by unfold Tryz.f22; rfl) (by unfold Tryz.f22; decide) (Nat.le_of_ble_eq_true (by unfold Tryz.f22; rfl)) (by kernel_rfl)]
  obtain ⟨r, hr⟩ : ∃ r, resA2 op a b = r := ⟨_, rfl⟩
  have hr' : opR op (numZ (sgnT a) (limT a)) (numZ (sgnT b) (limT b)) = r := hr
  rw [hr'] at hop
  obtain ⟨k, b1, lg, l, s, m, kg, ks⟩ := a
  obtain ⟨k', b2, lg', l', s', m', kg', ks'⟩ := b
  simp only [sgnT, limT, lgT'] at hop
  by_cases h1 : k = 1
  rotate_left
  · rw [arith_no _ op (.mk k b1 lg l s m kg ks) (.mk k' b2 lg' l' s' m' kg' ks') (fun h => h1 h.1)]
    have w1 : (k != 1) = true := bne_iff_ne.mpr h1
    simp only [simB, zbo, Nat.reduceBEq, own0, ↓reduceIte, Nat.reduceEqDiff, Nat.reduceAdd, env0, List.getElem?_cons_zero, List.getElem?_cons_succ, zdv, zdw, zdx, zdy, zdz, zea, zeb, zec, ia22, ld31, zed, zee, zef, zeg, zeh, zei, zej, zek, zel, zem, zen, zeo, zep, zeq, zer, fa_0, fa_1, zes, bd_0, bd_2, zet, fd_1, zeu, Nat.zero_add, encT, zeroT, cellsT, ldT_0, faT_0, i_neqV, w1, bdT_00, st_Tt, stT_6]
    exact finish_T2 _ _ _ _ _ T0 _ _ _ _ _ (by first | (simp only [zfp, ↓reduceIte, Nat.reduceEqDiff]; done) | (simp only [zfp, ↓reduceIte, Nat.reduceEqDiff]; rfl)) (by first | (simp only [zfp, ↓reduceIte, Nat.reduceEqDiff]; done) | (simp only [zfp, ↓reduceIte, Nat.reduceEqDiff]; rfl)) (by first | (simp only [zfp, ↓reduceIte, Nat.reduceEqDiff]; done) | (simp only [zfp, ↓reduceIte, Nat.reduceEqDiff]; rfl)) rfl
  by_cases h2 : k' = 1
  rotate_left
  · rw [arith_no _ op (.mk k b1 lg l s m kg ks) (.mk k' b2 lg' l' s' m' kg' ks') (fun h => h2 h.2.1)]
    have w1 : (k != 1) = false := by rw [h1]; rfl
    have w2 : (k' != 1) = true := bne_iff_ne.mpr h2
    simp only [simB, zbo, Nat.reduceBEq, own0, ↓reduceIte, Nat.reduceEqDiff, Nat.reduceAdd, env0, List.getElem?_cons_zero, List.getElem?_cons_succ, zdv, zdw, zdx, zdy, zdz, zea, zeb, zec, ia22, ld31, zed, zee, zef, zeg, zeh, zei, zej, zek, zel, zem, zen, zeo, zep, zeq, zer, fa_0, fa_1, zes, bd_0, bd_2, zet, fd_1, zeu, Nat.zero_add, encT, zeroT, cellsT, ldT_0, faT_0, i_neqV, w1, w2, bdT_00, st_Tt, stT_6]
    exact finish_T2 _ _ _ _ _ T0 _ _ _ _ _ (by first | (simp only [zfp, ↓reduceIte, Nat.reduceEqDiff]; done) | (simp only [zfp, ↓reduceIte, Nat.reduceEqDiff]; rfl)) (by first | (simp only [zfp, ↓reduceIte, Nat.reduceEqDiff]; done) | (simp only [zfp, ↓reduceIte, Nat.reduceEqDiff]; rfl)) (by first | (simp only [zfp, ↓reduceIte, Nat.reduceEqDiff]; done) | (simp only [zfp, ↓reduceIte, Nat.reduceEqDiff]; rfl)) rfl
  have w1 : (k != 1) = false := by rw [h1]; rfl
  have w2 : (k' != 1) = false := by rw [h2]; rfl
  have co := fun D st => callA_trees (cfg := cfg0) (d := D) (s := st) (f := 51) (vs := [.int .i64 op, encA b1 lg l, encA b2 lg' l']) (by cases lg <;> cases lg' <;> rfl) hop
  obtain ⟨v, ok⟩ := r
  simp only [encA, tupF, canA] at co
  cases ok with
  | true =>
    rw [arith_yes _ op (.mk k b1 lg l s m kg ks) (.mk k' b2 lg' l' s' m' kg' ks') v h1 h2 hr]
    simp only [simB, zbo, Nat.reduceBEq, own0, ↓reduceIte, Nat.reduceEqDiff, Nat.reduceAdd, env0, List.getElem?_cons_zero, List.getElem?_cons_succ, zdv, zdw, zdx, zdy, zdz, zea, zeb, zec, ia22, ld31, zed, zee, zef, zeg, zeh, zei, zej, zek, zel, zem, zen, zeo, zep, zeq, zer, fa_0, fa_1, zes, bd_0, bd_2, zet, fd_1, zeu, Nat.zero_add, encT, zeroT, cellsT, ldT_0, ldT_1, faT_0, faT_1, Nat.reduceAdd, i_neqV, w1, w2, co, zds, unA_not', Bool.not_true, bdT_nJ, st_T, stT_buf]
    exact finish_T2 _ _ _ _ _ (.mk 1 (decide (v < 0)) g (digs v.natAbs) [] 0 .n []) _ _ _ _ _ (by first | (simp only [zfp, ↓reduceIte, Nat.reduceEqDiff]; done) | (simp only [zfp, ↓reduceIte, Nat.reduceEqDiff]; rfl)) (by first | (simp only [zfp, ↓reduceIte, Nat.reduceEqDiff]; done) | (simp only [zfp, ↓reduceIte, Nat.reduceEqDiff]; rfl)) (by first | (simp only [zfp, ↓reduceIte, Nat.reduceEqDiff]; done) | (simp only [zfp, ↓reduceIte, Nat.reduceEqDiff]; rfl)) rfl
  | false =>
    rw [arith_no _ op (.mk k b1 lg l s m kg ks) (.mk k' b2 lg' l' s' m' kg' ks') (fun h => by have := h.2.2; rw [hr] at this; cases this)]
    simp only [simB, zbo, Nat.reduceBEq, own0, ↓reduceIte, Nat.reduceEqDiff, Nat.reduceAdd, env0, List.getElem?_cons_zero, List.getElem?_cons_succ, zdv, zdw, zdx, zdy, zdz, zea, zeb, zec, ia22, ld31, zed, zee, zef, zeg, zeh, zei, zej, zek, zel, zem, zen, zeo, zep, zeq, zer, fa_0, fa_1, zes, bd_0, bd_2, zet, fd_1, zeu, Nat.zero_add, encT, zeroT, cellsT, ldT_0, ldT_1, faT_0, faT_1, Nat.reduceAdd, i_neqV, w1, w2, co, zds, unA_not', Bool.not_false, bdT_00, st_Tt, stT_6]
    exact finish_T2 _ _ _ _ _ T0 _ _ _ _ _ (by first | (simp only [zfp, ↓reduceIte, Nat.reduceEqDiff]; done) | (simp only [zfp, ↓reduceIte, Nat.reduceEqDiff]; rfl)) (by first | (simp only [zfp, ↓reduceIte, Nat.reduceEqDiff]; done) | (simp only [zfp, ↓reduceIte, Nat.reduceEqDiff]; rfl)) (by first | (simp only [zfp, ↓reduceIte, Nat.reduceEqDiff]; done) | (simp only [zfp, ↓reduceIte, Nat.reduceEqDiff]; rfl)) rfl
end Go.Ab

/- relictref03.Items of any term; bif.One, relictref19.One. Conditions: so many nodes at most. -/
namespace Go.Ab
open Go.Proofs
set_option maxRecDepth 100000
set_option linter.unusedSimpArgs false

theorem itR_k3 (r : Nat) (k : Int) (b : Bool) (lg : Gk) (l : List Nat) (s : List UInt8) (n : Int) (kg : Gk) (ks acc : List T) (h : k = 3) : itT (r + 1) (.mk k b lg l s n kg ks) acc = some acc := by rw [itT_mk, if_pos h]
theorem itR_no (r : Nat) (k : Int) (b : Bool) (lg : Gk) (l : List Nat) (s : List UInt8) (n : Int) (kg : Gk) (ks acc : List T) (h : k ≠ 3) (h4 : k ≠ 4) : itT (r + 1) (.mk k b lg l s n kg ks) acc = none := by rw [itT_mk, if_neg h, if_neg h4]
theorem itR_n2 (r : Nat) (k : Int) (b : Bool) (lg : Gk) (l : List Nat) (s : List UInt8) (n : Int) (kg : Gk) (ks acc : List T) (h : k ≠ 3) (h4 : k = 4) (h2 : ks.length ≠ 2) : itT (r + 1) (.mk k b lg l s n kg ks) acc = none := by
  rw [itT_mk, if_neg h, if_pos h4]
  match ks, h2 with
  | [], _ => rfl
  | [_], _ => rfl
  | [_, _], h => exact absurd rfl h
  | _ :: _ :: _ :: _, _ => rfl
theorem itR_2 (r : Nat) (k : Int) (b : Bool) (lg : Gk) (l : List Nat) (s : List UInt8) (n : Int) (kg : Gk) (x u : T) (acc : List T) (h : k ≠ 3) (h4 : k = 4) : itT (r + 1) (.mk k b lg l s n kg [x, u]) acc = itT r u (acc ++ [x]) := by
  rw [itT_mk, if_neg h, if_pos h4]
/-- The terms of a list are no more than it has nodes. -/
theorem itT_len : ∀ (r : Nat) (t : T) (acc us : List T), itT r t acc = some us → us.length ≤ acc.length + nodT t
  | 0, _, _, _, h => by cases h
  | r + 1, .mk k b lg l s n kg ks, acc, us, h => by
    by_cases k3 : k = 3
    · rw [itR_k3 _ _ _ _ _ _ _ _ _ _ k3] at h; cases h; omega
    by_cases k4 : k = 4
    · by_cases k2 : ks.length = 2
      · obtain ⟨x, u, rfl⟩ : ∃ x u, ks = [x, u] := by
          match ks, k2 with
          | [x, u], _ => exact ⟨x, u, rfl⟩
        rw [itR_2 _ _ _ _ _ _ _ _ _ _ _ k3 k4] at h
        have := itT_len r u _ us h
        simp only [List.length_append, List.length_cons, List.length_nil] at this
        have hx := nod_pos x
        simp only [nodT, nodK]
        omega
      · rw [itR_n2 _ _ _ _ _ _ _ _ _ _ k3 k4 k2] at h; cases h
    · rw [itR_no _ _ _ _ _ _ _ _ _ _ k3 k4] at h; cases h
set_option maxHeartbeats 8000000 in
theorem rItemsA_eq (R d : Nat) (t0 : T) (hn : nodT t0 ≤ 1999) (hR : 2010 ≤ R) : evalFn Tryz.prog cfg0 R (d+1) 55 [.tree (encT t0)] = some (.tree (itemsV (itemsT t0)), [[]]) := by
  rw [evalFn_go _ Tryz.func55 (by unfold Tryz.f55; rfl) (by unfold Tryz.f55; decide) (Nat.le_of_ble_eq_true (by unfold Tryz.f55; rfl)) (by kernel_rfl)]
  simp only [simB, zbo, Nat.reduceBEq, own0, ↓reduceIte, Nat.reduceEqDiff, Nat.reduceAdd, env0, List.getElem?_cons_zero, List.getElem?_cons_succ, zef, zeg, zeh, zei, zej, zek, zel, zem, zen, zeo, zep, zeq, zer, fa_0, fa_1, zes, bd_0, bd_2, zet, fd_1, zeu, Nat.zero_add, encT, den_loop]
  refine loop_ends (X := T × List T) (fun x env s => env 1 = .ptr 1 1 0 ∧ s 1 = ⟨1, .buf (cellsT x.1)⟩ ∧ Ap s 23 (env 4) x.2 ∧ x.2.length + nodT x.1 ≤ 1999 ∧ itT (2001 - x.2.length) x.1 x.2 = itemsT t0) (fun x => 2001 - x.2.length) (fun _ => (.tree (itemsV (itemsT t0)), [[]])) ?_ R (t0, []) _ _ (by simp only [List.length_nil]; omega) ⟨(by first | (simp only [zfp, ↓reduceIte, Nat.reduceEqDiff]; done) | (simp only [zfp, ↓reduceIte, Nat.reduceEqDiff]; rfl)), (by first | (simp only [zfp, ↓reduceIte, Nat.reduceEqDiff]; done) | (simp only [zfp, ↓reduceIte, Nat.reduceEqDiff]; rfl)), .inl ⟨rfl, (by first | (simp only [zfp, ↓reduceIte, Nat.reduceEqDiff]; done) | (simp only [zfp, ↓reduceIte, Nat.reduceEqDiff]; rfl))⟩, by simpa using hn, rfl⟩
  rintro rd ⟨t, acc⟩ hrd ih env st ⟨e1, j1, ap, hl, hit⟩
  simp only at j1 ap hl hit hrd
  have hnp := nod_pos t
  rw [← hit]
  generalize h4 : env 4 = x4 at ap
  have la : ∀ st, lenA Tryz.prog 22 st x4 = some (.int .i64 (acc.length : Int)) := fun st => by
    rcases ap with ⟨rfl, rfl⟩ | ⟨_, tt, rfl, _⟩
    · exact lenTk st [] 0 .nil
    · exact lenTk st _ _ _
  obtain ⟨r, hr⟩ : ∃ r, 2001 - acc.length = r + 1 := ⟨2000 - acc.length, by omega⟩
  rw [hr] at hit ⊢
  obtain ⟨k, b, lg, l, s, m, kg, ks⟩ := t
  simp only [cellsT] at j1
  by_cases k4 : k = 4
  rotate_left
  · have q4 : (k == 4) = false := beq_eq_false_iff_ne.mpr k4
    by_cases k3 : k = 3
    · rw [itR_k3 _ _ _ _ _ _ _ _ _ _ k3]
      have q3 : (k != 3) = false := by rw [k3]; rfl
      simp only [simB, zbo, Nat.reduceBEq, own0, ↓reduceIte, Nat.reduceEqDiff, Nat.reduceAdd, zdv, zdw, zdx, zdy, zdz, zea, zeb, zec, ia22, ld31, zed, zee, zef, zeg, zeh, zei, zej, zek, zel, zem, zen, zeo, zep, zeq, zer, fa_0, fa_1, zes, bd_0, bd_2, zet, fd_1, zeu, Nat.zero_add, e1, j1, h4, faT_0, ldT_0, i_eqlV, i_neqV, q3, q4]
      exact finish_Kb _ _ _ _ 23 x4 acc _ _ _ _ (by first | (simp only [zfp, ↓reduceIte, Nat.reduceEqDiff]; done) | (simp only [zfp, ↓reduceIte, Nat.reduceEqDiff]; rfl)) ap (by first | (simp only [zfp, ↓reduceIte, Nat.reduceEqDiff]; done) | (simp only [zfp, ↓reduceIte, Nat.reduceEqDiff]; rfl)) rfl
    · rw [itR_no _ _ _ _ _ _ _ _ _ _ k3 k4]
      have q3 : (k != 3) = true := bne_iff_ne.mpr k3
      simp only [simB, zbo, Nat.reduceBEq, own0, ↓reduceIte, Nat.reduceEqDiff, Nat.reduceAdd, zdv, zdw, zdx, zdy, zdz, zea, zeb, zec, ia22, ld31, zed, zee, zef, zeg, zeh, zei, zej, zek, zel, zem, zen, zeo, zep, zeq, zer, fa_0, fa_1, zes, bd_0, bd_2, zet, fd_1, zeu, Nat.zero_add, e1, j1, h4, faT_0, ldT_0, i_eqlV, i_neqV, q3, q4]
      exact finish_Kb _ _ _ _ 23 _ [] _ _ _ _ (by first | (simp only [zfp, ↓reduceIte, Nat.reduceEqDiff]; done) | (simp only [zfp, ↓reduceIte, Nat.reduceEqDiff]; rfl)) (.inl ⟨rfl, rfl⟩) (by first | (simp only [zfp, ↓reduceIte, Nat.reduceEqDiff]; done) | (simp only [zfp, ↓reduceIte, Nat.reduceEqDiff]; rfl)) rfl
  have k3 : k ≠ 3 := by omega
  have q4 : (k == 4) = true := by rw [k4]; rfl
  by_cases k2 : ks.length = 2
  rotate_left
  · rw [itR_n2 _ _ _ _ _ _ _ _ _ _ k3 k4 k2]
    have q5 : ((ks.length : Int) != 2) = true := bne_iff_ne.mpr (by omega)
    simp only [simB, zbo, Nat.reduceBEq, own0, ↓reduceIte, Nat.reduceEqDiff, Nat.reduceAdd, zdv, zdw, zdx, zdy, zdz, zea, zeb, zec, ia22, ld31, zed, zee, zef, zeg, zeh, zei, zej, zek, zel, zem, zen, zeo, zep, zeq, zer, fa_0, fa_1, zes, bd_0, bd_2, zet, fd_1, zeu, Nat.zero_add, e1, j1, h4, faT_0, ldT_0, faT_4, Nat.reduceAdd, ldT_4, lenTk, i_eqlV, i_neqV, q4, q5]
    exact finish_Kb _ _ _ _ 23 _ [] _ _ _ _ (by first | (simp only [zfp, ↓reduceIte, Nat.reduceEqDiff]; done) | (simp only [zfp, ↓reduceIte, Nat.reduceEqDiff]; rfl)) (.inl ⟨rfl, rfl⟩) (by first | (simp only [zfp, ↓reduceIte, Nat.reduceEqDiff]; done) | (simp only [zfp, ↓reduceIte, Nat.reduceEqDiff]; rfl)) rfl
  obtain ⟨h, u, rfl⟩ : ∃ h u, ks = [h, u] := by
    match ks, k2 with
    | [h, u], _ => exact ⟨h, u, rfl⟩
  rw [itR_2 _ _ _ _ _ _ _ _ _ _ _ k3 k4] at hit ⊢
  have hnh := nod_pos h
  simp only [nodT, nodK] at hl
  have q5 : (((2 : Nat) : Int) != 2) = false := rfl
  have q6 : ¬ ((acc.length : Int) ≥ 2000) := by omega
  obtain ⟨x', s', a1, a2, a3⟩ := ap.push (by omega) h
  have i0 : ∀ st, indexAddrA Tryz.prog 22 st (.sl (cellsK [h, u]) 2 (gr kg)) (.int .i64 0) = some (.rptr (cellsK [h, u])) := fun st => ia_K st [h, u] (gr kg) 0 (by simp)
  have i1 : ∀ st, indexAddrA Tryz.prog 22 st (.sl (cellsK [h, u]) 2 (gr kg)) (.int .i64 1) = some (.rptr (cellsK [u])) := fun st => ia_K st [h, u] (gr kg) 1 (by simp)
  have l0 := fun st => ld_K st h [u]
  have l1 := fun st => ld_K st u []
  simp only [encT] at l0 l1
  simp only [List.length_cons, List.length_nil, Nat.zero_add, Nat.reduceAdd] at j1
  have j1' : s' 1 = st 1 := a3 1 (by decide)
  rw [j1] at j1'
  simp only [simB, zbo, Nat.reduceBEq, own0, ↓reduceIte, Nat.reduceEqDiff, Nat.reduceAdd, zdv, zdw, zdx, zdy, zdz, zea, zeb, zec, ia22, ld31, zed, zee, zef, zeg, zeh, zei, zej, zek, zel, zem, zen, zeo, zep, zeq, zer, fa_0, fa_1, zes, bd_0, bd_2, zet, fd_1, zeu, Nat.zero_add, e1, j1, h4, la, faT_0, ldT_0, faT_4, Nat.reduceAdd, ldT_4, lenTk, i_eqlV, i_neqV, q4, q5, q6, i0, l0, opA_one26, one26_KU, a1, j1', i1, l1, st_Tt, stT_6]
  rw [hit]
  refine ih (u, acc ++ [h]) _ _ (by simp; omega) rfl ⟨(by first | (simp only [zfp, ↓reduceIte, Nat.reduceEqDiff, e1]; done) | (simp only [zfp, ↓reduceIte, Nat.reduceEqDiff, e1]; rfl)), (by first | (simp only [zfp, ↓reduceIte, Nat.reduceEqDiff]; done) | (simp only [zfp, ↓reduceIte, Nat.reduceEqDiff]; rfl)), ?_, by simp only [List.length_append, List.length_cons, List.length_nil]; omega, ?_⟩
  · rcases a2 with ⟨g1, _⟩ | ⟨g1, tt, g2, g3⟩
    · exact absurd g1 (by simp)
    · exact .inr ⟨g1, tt, (by first | (simp only [zfp, ↓reduceIte, Nat.reduceEqDiff, g2]; done) | (simp only [zfp, ↓reduceIte, Nat.reduceEqDiff, g2]; rfl)), by rw [upd_ne _ _ (by decide)]; exact g3⟩
  · simp only [List.length_append, List.length_cons, List.length_nil]
    rw [show 2001 - (acc.length + (0 + 1)) = r by omega]
    exact hit
end Go.Ab

/- bif.One, relictref19.One. Conditions: so many nodes at most. -/
namespace Go.Ab
open Go.Proofs
set_option maxRecDepth 100000
set_option linter.unusedSimpArgs false

def oneT (f : Int → T) (op : Int) (t : T) : T × Bool :=
  if (op = 1 ∨ op = 2) ∧ kindT t = 4 ∧ (kidsT t).length = 2 then ((kidsT t).getD (op.toNat - 1) T0, true)
  else if op = 3 ∧ kindT t = 5 then (f (kidsT t).length, true)
  else if op = 4 ∧ kindT t = 6 then (f (strT t).length, true)
  else if op = 5 then (match itemsT t with | some us => (f us.length, true) | none => (T0, false))
  else (T0, false)
theorem ld_KW (st : St) (t : T) (r : List T) : loadA Tryz.prog 29 st (.rptr (cellsK (t :: r))) = some (.agg (cellsT t)) := ld_K st t r
theorem len_two (ks : List T) (h : ks.length = 2) : ∃ x y, ks = [x, y] := by
  match ks, h with
  | [x, y], _ => exact ⟨x, y, rfl⟩
theorem one_12 (f : Int → T) (op : Int) (t x : T) (h1 : op = 1 ∨ op = 2) (h2 : kindT t = 4) (h3 : (kidsT t).length = 2) (hx : (kidsT t).getD (op.toNat - 1) T0 = x) : oneT f op t = (x, true) := by
  unfold oneT; rw [if_pos ⟨h1, h2, h3⟩, hx]
theorem one_no (f : Int → T) (op : Int) (t : T) (h1 : ¬ ((op = 1 ∨ op = 2) ∧ kindT t = 4 ∧ (kidsT t).length = 2)) (h2 : ¬ (op = 3 ∧ kindT t = 5)) (h3 : ¬ (op = 4 ∧ kindT t = 6)) (h4 : op ≠ 5 ∨ itemsT t = none) : oneT f op t = (T0, false) := by
  unfold oneT; rw [if_neg h1, if_neg h2, if_neg h3]
  by_cases h5 : op = 5
  · rw [if_pos h5, h4.resolve_left (by simp [h5])]
  · rw [if_neg h5]
theorem one_3 (f : Int → T) (t : T) (h : kindT t = 5) : oneT f 3 t = (f (kidsT t).length, true) := by
  unfold oneT; rw [if_neg (by omega), if_pos ⟨rfl, h⟩]
theorem one_4 (f : Int → T) (t : T) (h : kindT t = 6) : oneT f 4 t = (f (strT t).length, true) := by
  unfold oneT; rw [if_neg (by omega), if_neg (by omega), if_pos ⟨rfl, h⟩]
theorem one_5 (f : Int → T) (t : T) (us : List T) (h : itemsT t = some us) : oneT f 5 t = (f us.length, true) := by
  unfold oneT; rw [if_neg (by omega), if_neg (by omega), if_neg (by omega), if_pos rfl, h]
theorem items_len (t : T) (us : List T) (h : itemsT t = some us) : us.length ≤ nodT t := by
  unfold itemsT at h
  have := itT_len 2001 t [] us h
  rw [List.length_nil, Nat.zero_add] at this
  exact this
theorem bare_oneK : ∀ (ks ks' : List T) (i : Nat), bareK ks = bareK ks' → bareT (ks.getD i T0) = bareT (ks'.getD i T0)
  | [], [], i, _ => rfl
  | [], _ :: _, _, h => by cases h
  | _ :: _, [], _, h => by cases h
  | a :: r, b :: q, 0, h => by simp only [bareK, List.cons.injEq] at h; exact h.1
  | a :: r, b :: q, i + 1, h => by
    simp only [bareK, List.cons.injEq] at h
    simpa using bare_oneK r q i h.2
theorem itT_bare : ∀ (r : Nat) (t t' : T) (acc acc' : List T), bareT t = bareT t' → acc.length = acc'.length → (itT r t acc).map List.length = (itT r t' acc').map List.length
  | 0, _, _, _, _, _, _ => rfl
  | r + 1, .mk k b lg l s n kg ks, .mk k' b' lg' l' s' n' kg' ks', acc, acc', h, ha => by
    simp only [bareT, T.mk.injEq, true_and] at h
    obtain ⟨rfl, rfl, rfl, rfl, rfl, hb⟩ := h
    by_cases k3 : k = 3
    · rw [itR_k3 _ _ _ _ _ _ _ _ _ _ k3, itR_k3 _ _ _ _ _ _ _ _ _ _ k3]; simp [ha]
    by_cases k4 : k = 4
    · have hl : ks.length = ks'.length := by have := congrArg List.length hb; rwa [bareK_len, bareK_len] at this
      by_cases k2 : ks.length = 2
      · obtain ⟨x, u, rfl⟩ : ∃ x u, ks = [x, u] := by
          match ks, k2 with
          | [x, u], _ => exact ⟨x, u, rfl⟩
        obtain ⟨x', u', rfl⟩ : ∃ x u, ks' = [x, u] := by
          match ks', hl with
          | [x, u], _ => exact ⟨x, u, rfl⟩
        rw [itR_2 _ _ _ _ _ _ _ _ _ _ _ k3 k4, itR_2 _ _ _ _ _ _ _ _ _ _ _ k3 k4]
        simp only [bareK, List.cons.injEq] at hb
        exact itT_bare r u u' _ _ hb.2.1 (by simp [ha])
      · rw [itR_n2 _ _ _ _ _ _ _ _ _ _ k3 k4 k2, itR_n2 _ _ _ _ _ _ _ _ _ _ k3 k4 (by omega)]
    · rw [itR_no _ _ _ _ _ _ _ _ _ _ k3 k4, itR_no _ _ _ _ _ _ _ _ _ _ k3 k4]
theorem bare_one (op : Int) (t t' : T) (h : bareT t = bareT t') : bareT (oneT smallT op t).1 = bareT (oneT intT op t').1 ∧ (oneT smallT op t).2 = (oneT intT op t').2 := by
  have hs : ∀ v, bareT (smallT v) = bareT (intT v) := fun v => rfl
  have hi := itT_bare 2001 t t' [] [] h rfl
  have e1 : kindT t = kindT t' ∧ strT t = strT t' ∧ bareK (kidsT t) = bareK (kidsT t') := by
    obtain ⟨k, b, lg, l, s, m, kg, ks⟩ := t
    obtain ⟨k', b', lg', l', s', m', kg', ks'⟩ := t'
    simp only [bareT, T.mk.injEq, true_and] at h
    exact ⟨h.1, h.2.2.2.1, h.2.2.2.2.2⟩
  obtain ⟨ek, es, hb⟩ := e1
  have hl : (kidsT t).length = (kidsT t').length := by have := congrArg List.length hb; rwa [bareK_len, bareK_len] at this
  by_cases q1 : (op = 1 ∨ op = 2) ∧ kindT t = 4 ∧ (kidsT t).length = 2
  · rw [one_12 smallT op t _ q1.1 q1.2.1 q1.2.2 rfl, one_12 intT op t' _ q1.1 (by rw [← ek]; exact q1.2.1) (by rw [← hl]; exact q1.2.2) rfl]
    exact ⟨bare_oneK _ _ _ hb, rfl⟩
  by_cases q2 : op = 3 ∧ kindT t = 5
  · obtain ⟨rfl, q2⟩ := q2
    rw [one_3 smallT t q2, one_3 intT t' (by rw [← ek]; exact q2), hl]
    exact ⟨hs _, rfl⟩
  by_cases q3 : op = 4 ∧ kindT t = 6
  · obtain ⟨rfl, q3⟩ := q3
    rw [one_4 smallT t q3, one_4 intT t' (by rw [← ek]; exact q3), es]
    exact ⟨hs _, rfl⟩
  have q1' : ¬ ((op = 1 ∨ op = 2) ∧ kindT t' = 4 ∧ (kidsT t').length = 2) := by rw [← ek, ← hl]; exact q1
  have q2' : ¬ (op = 3 ∧ kindT t' = 5) := by rw [← ek]; exact q2
  have q3' : ¬ (op = 4 ∧ kindT t' = 6) := by rw [← ek]; exact q3
  by_cases q4 : op = 5
  · subst q4
    have hi2 : (itemsT t).map List.length = (itemsT t').map List.length := hi
    cases h1 : itemsT t with
    | none =>
      cases h2 : itemsT t' with
      | none => rw [one_no smallT 5 t q1 q2 q3 (.inr h1), one_no intT 5 t' q1' q2' q3' (.inr h2)]; exact ⟨rfl, rfl⟩
      | some v => rw [h1, h2] at hi2; cases hi2
    | some u =>
      cases h2 : itemsT t' with
      | none => rw [h1, h2] at hi2; cases hi2
      | some v =>
        rw [h1, h2] at hi2
        have hi3 : u.length = v.length := by simpa using hi2
        rw [one_5 smallT t u h1, one_5 intT t' v h2, hi3]
        exact ⟨hs _, rfl⟩
  · rw [one_no smallT op t q1 q2 q3 (.inl q4), one_no intT op t' q1' q2' q3' (.inl q4)]
    exact ⟨rfl, rfl⟩
set_option maxHeartbeats 16000000 in
theorem oneA_eq (R d : Nat) (hR : 100000 ≤ R) (op : Int) (t : T) (hn : nodT t ≤ 1999) (hk : (kidsT t).length ≤ 1000000) (hs : (strT t).length ≤ 1000000) : evalFn Tryz.prog cfg0 R (d+6) 23 [.tree (.int .i64 op), .tree (encT t)] = some (.tree (.tup [encT (oneT smallT op t).1, .bool (oneT smallT op t).2]), [[], []]) := by
  rw [evalFn_go _ Tryz.func23 (by unfold Tryz.f23; rfl) (by unfold Tryz.f23; decide) (Nat.le_of_ble_eq_true (by unfold Tryz.f23; rfl)) (by kernel_rfl)]
  have cn (v : Int) (hv : I64 v) := fun D st => callA_trees (cfg := cfg0) (d := D) (s := st) (f := 52) (vs := [.int .i64 v]) rfl (number_eq R (d+1) hR v hv)
  have ct := fun D st => callA_trees (cfg := cfg0) (d := D) (s := st) (f := 53) (vs := [encT t]) rfl (items_eq R (by omega) (d+4) t)
  have hit := items_len t
  obtain ⟨k, n1, lg, l, s1, i1, kg, ks⟩ := t
  simp only [kidsT, strT] at hk hs
  have c1 := cn (ks.length : Int) ⟨by omega, by omega⟩
  have c2 := cn (s1.length : Int) ⟨by omega, by omega⟩
  simp only [encT] at c1 c2 ct
  by_cases k4 : k = 4
  · have b4 : (k == 4) = true := by rw [k4]; rfl
    have b5 : (k == 5) = false := by rw [k4]; rfl
    have b6 : (k == 6) = false := by rw [k4]; rfl
    by_cases o1 : op = 1
    · subst o1
      by_cases k2 : ks.length = 2
      · obtain ⟨x, y, rfl⟩ := len_two ks k2
        rw [one_12 smallT 1 (.mk k n1 lg l s1 i1 kg [x, y]) x (by decide) k4 rfl rfl]
        have ia : ∀ st, indexAddrA Tryz.prog 22 st (.sl (cellsK [x, y]) 2 (gr kg)) (.int .i64 0) = some (.rptr (cellsK [x, y])) := fun st => ia_K st [x, y] (gr kg) 0 (by simp)
        have ld := fun st => ld_KW st x [y]
        have w2 : (((2 : Nat) : Int) == 2) = true := rfl
        simp only [simB, zbo, Nat.reduceBEq, own0, ↓reduceIte, Nat.reduceEqDiff, Nat.reduceAdd, env0, List.getElem?_cons_zero, List.getElem?_cons_succ, zdv, zdw, zdx, zdy, zdz, zea, zeb, zec, ia22, ld31, zed, zee, zef, zeg, zeh, zei, zej, zek, zel, zem, zen, zeo, zep, zeq, zer, fa_0, fa_1, zes, bd_0, bd_2, zet, fd_1, zeu, Nat.zero_add, zev, List.toList_toArray, len9, ix9, zew, zex, zey, zez, zfa, zeroT, encT, cellsT, ldT_a, ldT_0, ldT_2, ldT_4, faT_0, faT_2, faT_4, Nat.reduceAdd, Int.reduceSub, lenTk, i_eqlV, Int.reduceBEq, zds, bdT_00, st_Tt, stT_6, List.length_cons, List.length_nil, Nat.zero_add, b4, w2, ia, ld]
        exact finish_T2 _ _ _ _ _ (x) _ _ _ _ _ (by first | (simp only [zfp, ↓reduceIte, Nat.reduceEqDiff]; done) | (simp only [zfp, ↓reduceIte, Nat.reduceEqDiff]; rfl)) (by first | (simp only [zfp, ↓reduceIte, Nat.reduceEqDiff]; done) | (simp only [zfp, ↓reduceIte, Nat.reduceEqDiff]; rfl)) (by first | (simp only [zfp, ↓reduceIte, Nat.reduceEqDiff]; done) | (simp only [zfp, ↓reduceIte, Nat.reduceEqDiff]; rfl)) rfl
      · have w2 : ((ks.length : Int) == 2) = false := beq_eq_false_iff_ne.mpr (by omega)
        rw [one_no smallT 1 (.mk k n1 lg l s1 i1 kg ks) (fun h => k2 h.2.2) (by omega) (by omega) (.inl (by decide))]
        simp only [simB, zbo, Nat.reduceBEq, own0, ↓reduceIte, Nat.reduceEqDiff, Nat.reduceAdd, env0, List.getElem?_cons_zero, List.getElem?_cons_succ, zdv, zdw, zdx, zdy, zdz, zea, zeb, zec, ia22, ld31, zed, zee, zef, zeg, zeh, zei, zej, zek, zel, zem, zen, zeo, zep, zeq, zer, fa_0, fa_1, zes, bd_0, bd_2, zet, fd_1, zeu, Nat.zero_add, zev, List.toList_toArray, len9, ix9, zew, zex, zey, zez, zfa, zeroT, encT, cellsT, ldT_a, ldT_0, ldT_2, ldT_4, faT_0, faT_2, faT_4, Nat.reduceAdd, Int.reduceSub, lenTk, i_eqlV, Int.reduceBEq, zds, bdT_00, st_Tt, stT_6, b4, w2]
        exact finish_T2 _ _ _ _ _ T0 _ _ _ _ _ (by first | (simp only [zfp, ↓reduceIte, Nat.reduceEqDiff]; done) | (simp only [zfp, ↓reduceIte, Nat.reduceEqDiff]; rfl)) (by first | (simp only [zfp, ↓reduceIte, Nat.reduceEqDiff]; done) | (simp only [zfp, ↓reduceIte, Nat.reduceEqDiff]; rfl)) (by first | (simp only [zfp, ↓reduceIte, Nat.reduceEqDiff]; done) | (simp only [zfp, ↓reduceIte, Nat.reduceEqDiff]; rfl)) rfl
    by_cases o2 : op = 2
    · subst o2
      by_cases k2 : ks.length = 2
      · obtain ⟨x, y, rfl⟩ := len_two ks k2
        rw [one_12 smallT 2 (.mk k n1 lg l s1 i1 kg [x, y]) y (by decide) k4 rfl rfl]
        have ia : ∀ st, indexAddrA Tryz.prog 22 st (.sl (cellsK [x, y]) 2 (gr kg)) (.int .i64 1) = some (.rptr (cellsK [y])) := fun st => ia_K st [x, y] (gr kg) 1 (by simp)
        have ld := fun st => ld_KW st y []
        have w2 : (((2 : Nat) : Int) == 2) = true := rfl
        simp only [simB, zbo, Nat.reduceBEq, own0, ↓reduceIte, Nat.reduceEqDiff, Nat.reduceAdd, env0, List.getElem?_cons_zero, List.getElem?_cons_succ, zdv, zdw, zdx, zdy, zdz, zea, zeb, zec, ia22, ld31, zed, zee, zef, zeg, zeh, zei, zej, zek, zel, zem, zen, zeo, zep, zeq, zer, fa_0, fa_1, zes, bd_0, bd_2, zet, fd_1, zeu, Nat.zero_add, zev, List.toList_toArray, len9, ix9, zew, zex, zey, zez, zfa, zeroT, encT, cellsT, ldT_a, ldT_0, ldT_2, ldT_4, faT_0, faT_2, faT_4, Nat.reduceAdd, Int.reduceSub, lenTk, i_eqlV, Int.reduceBEq, zds, bdT_00, st_Tt, stT_6, List.length_cons, List.length_nil, Nat.zero_add, b4, w2, ia, ld]
        exact finish_T2 _ _ _ _ _ (y) _ _ _ _ _ (by first | (simp only [zfp, ↓reduceIte, Nat.reduceEqDiff]; done) | (simp only [zfp, ↓reduceIte, Nat.reduceEqDiff]; rfl)) (by first | (simp only [zfp, ↓reduceIte, Nat.reduceEqDiff]; done) | (simp only [zfp, ↓reduceIte, Nat.reduceEqDiff]; rfl)) (by first | (simp only [zfp, ↓reduceIte, Nat.reduceEqDiff]; done) | (simp only [zfp, ↓reduceIte, Nat.reduceEqDiff]; rfl)) rfl
      · have w2 : ((ks.length : Int) == 2) = false := beq_eq_false_iff_ne.mpr (by omega)
        rw [one_no smallT 2 (.mk k n1 lg l s1 i1 kg ks) (fun h => k2 h.2.2) (by omega) (by omega) (.inl (by decide))]
        simp only [simB, zbo, Nat.reduceBEq, own0, ↓reduceIte, Nat.reduceEqDiff, Nat.reduceAdd, env0, List.getElem?_cons_zero, List.getElem?_cons_succ, zdv, zdw, zdx, zdy, zdz, zea, zeb, zec, ia22, ld31, zed, zee, zef, zeg, zeh, zei, zej, zek, zel, zem, zen, zeo, zep, zeq, zer, fa_0, fa_1, zes, bd_0, bd_2, zet, fd_1, zeu, Nat.zero_add, zev, List.toList_toArray, len9, ix9, zew, zex, zey, zez, zfa, zeroT, encT, cellsT, ldT_a, ldT_0, ldT_2, ldT_4, faT_0, faT_2, faT_4, Nat.reduceAdd, Int.reduceSub, lenTk, i_eqlV, Int.reduceBEq, zds, bdT_00, st_Tt, stT_6, b4, w2]
        exact finish_T2 _ _ _ _ _ T0 _ _ _ _ _ (by first | (simp only [zfp, ↓reduceIte, Nat.reduceEqDiff]; done) | (simp only [zfp, ↓reduceIte, Nat.reduceEqDiff]; rfl)) (by first | (simp only [zfp, ↓reduceIte, Nat.reduceEqDiff]; done) | (simp only [zfp, ↓reduceIte, Nat.reduceEqDiff]; rfl)) (by first | (simp only [zfp, ↓reduceIte, Nat.reduceEqDiff]; done) | (simp only [zfp, ↓reduceIte, Nat.reduceEqDiff]; rfl)) rfl
    by_cases o3 : op = 3
    · subst o3
      rw [one_no smallT 3 (.mk k n1 lg l s1 i1 kg ks) (by omega) (fun h => by have := h.2; simp only [kindT] at this; omega) (by omega) (.inl (by decide))]
      simp only [simB, zbo, Nat.reduceBEq, own0, ↓reduceIte, Nat.reduceEqDiff, Nat.reduceAdd, env0, List.getElem?_cons_zero, List.getElem?_cons_succ, zdv, zdw, zdx, zdy, zdz, zea, zeb, zec, ia22, ld31, zed, zee, zef, zeg, zeh, zei, zej, zek, zel, zem, zen, zeo, zep, zeq, zer, fa_0, fa_1, zes, bd_0, bd_2, zet, fd_1, zeu, Nat.zero_add, zev, List.toList_toArray, len9, ix9, zew, zex, zey, zez, zfa, zeroT, encT, cellsT, ldT_a, ldT_0, ldT_2, ldT_4, faT_0, faT_2, faT_4, Nat.reduceAdd, Int.reduceSub, lenTk, i_eqlV, Int.reduceBEq, zds, bdT_00, st_Tt, stT_6, b4, b5]
      exact finish_T2 _ _ _ _ _ T0 _ _ _ _ _ (by first | (simp only [zfp, ↓reduceIte, Nat.reduceEqDiff]; done) | (simp only [zfp, ↓reduceIte, Nat.reduceEqDiff]; rfl)) (by first | (simp only [zfp, ↓reduceIte, Nat.reduceEqDiff]; done) | (simp only [zfp, ↓reduceIte, Nat.reduceEqDiff]; rfl)) (by first | (simp only [zfp, ↓reduceIte, Nat.reduceEqDiff]; done) | (simp only [zfp, ↓reduceIte, Nat.reduceEqDiff]; rfl)) rfl
    by_cases o4 : op = 4
    · subst o4
      rw [one_no smallT 4 (.mk k n1 lg l s1 i1 kg ks) (by omega) (by omega) (fun h => by have := h.2; simp only [kindT] at this; omega) (.inl (by decide))]
      simp only [simB, zbo, Nat.reduceBEq, own0, ↓reduceIte, Nat.reduceEqDiff, Nat.reduceAdd, env0, List.getElem?_cons_zero, List.getElem?_cons_succ, zdv, zdw, zdx, zdy, zdz, zea, zeb, zec, ia22, ld31, zed, zee, zef, zeg, zeh, zei, zej, zek, zel, zem, zen, zeo, zep, zeq, zer, fa_0, fa_1, zes, bd_0, bd_2, zet, fd_1, zeu, Nat.zero_add, zev, List.toList_toArray, len9, ix9, zew, zex, zey, zez, zfa, zeroT, encT, cellsT, ldT_a, ldT_0, ldT_2, ldT_4, faT_0, faT_2, faT_4, Nat.reduceAdd, Int.reduceSub, lenTk, i_eqlV, Int.reduceBEq, zds, bdT_00, st_Tt, stT_6, b4, b6]
      exact finish_T2 _ _ _ _ _ T0 _ _ _ _ _ (by first | (simp only [zfp, ↓reduceIte, Nat.reduceEqDiff]; done) | (simp only [zfp, ↓reduceIte, Nat.reduceEqDiff]; rfl)) (by first | (simp only [zfp, ↓reduceIte, Nat.reduceEqDiff]; done) | (simp only [zfp, ↓reduceIte, Nat.reduceEqDiff]; rfl)) (by first | (simp only [zfp, ↓reduceIte, Nat.reduceEqDiff]; done) | (simp only [zfp, ↓reduceIte, Nat.reduceEqDiff]; rfl)) rfl
    by_cases o5 : op = 5
    · subst o5
      cases hI : itemsT (.mk k n1 lg l s1 i1 kg ks) with
      | none =>
        rw [hI] at ct
        simp only [itemsV, cellsT] at ct
        rw [one_no smallT 5 (.mk k n1 lg l s1 i1 kg ks) (by omega) (by omega) (by omega) (.inr hI)]
        simp only [simB, zbo, Nat.reduceBEq, own0, ↓reduceIte, Nat.reduceEqDiff, Nat.reduceAdd, env0, List.getElem?_cons_zero, List.getElem?_cons_succ, zdv, zdw, zdx, zdy, zdz, zea, zeb, zec, ia22, ld31, zed, zee, zef, zeg, zeh, zei, zej, zek, zel, zem, zen, zeo, zep, zeq, zer, fa_0, fa_1, zes, bd_0, bd_2, zet, fd_1, zeu, Nat.zero_add, zev, List.toList_toArray, len9, ix9, zew, zex, zey, zez, zfa, zeroT, encT, cellsT, ldT_a, ldT_0, ldT_2, ldT_4, faT_0, faT_2, faT_4, Nat.reduceAdd, Int.reduceSub, lenTk, i_eqlV, Int.reduceBEq, zds, bdT_00, st_Tt, stT_6, b4, ct]
        exact finish_T2 _ _ _ _ _ T0 _ _ _ _ _ (by first | (simp only [zfp, ↓reduceIte, Nat.reduceEqDiff]; done) | (simp only [zfp, ↓reduceIte, Nat.reduceEqDiff]; rfl)) (by first | (simp only [zfp, ↓reduceIte, Nat.reduceEqDiff]; done) | (simp only [zfp, ↓reduceIte, Nat.reduceEqDiff]; rfl)) (by first | (simp only [zfp, ↓reduceIte, Nat.reduceEqDiff]; done) | (simp only [zfp, ↓reduceIte, Nat.reduceEqDiff]; rfl)) rfl
      | some us =>
        rw [hI] at ct
        simp only [itemsV, cellsT] at ct
        have hu := hit us hI
        have c3 := cn (us.length : Int) ⟨by omega, by omega⟩
        simp only [encT] at c3
        rw [one_5 smallT (.mk k n1 lg l s1 i1 kg ks) us hI]
        simp only [simB, zbo, Nat.reduceBEq, own0, ↓reduceIte, Nat.reduceEqDiff, Nat.reduceAdd, env0, List.getElem?_cons_zero, List.getElem?_cons_succ, zdv, zdw, zdx, zdy, zdz, zea, zeb, zec, ia22, ld31, zed, zee, zef, zeg, zeh, zei, zej, zek, zel, zem, zen, zeo, zep, zeq, zer, fa_0, fa_1, zes, bd_0, bd_2, zet, fd_1, zeu, Nat.zero_add, zev, List.toList_toArray, len9, ix9, zew, zex, zey, zez, zfa, zeroT, encT, cellsT, ldT_a, ldT_0, ldT_2, ldT_4, faT_0, faT_2, faT_4, Nat.reduceAdd, Int.reduceSub, lenTk, i_eqlV, Int.reduceBEq, zds, bdT_00, st_Tt, stT_6, b4, ct, c3]
        exact finish_T2 _ _ _ _ _ (smallT (us.length : Int)) _ _ _ _ _ (by first | (simp only [zfp, ↓reduceIte, Nat.reduceEqDiff]; done) | (simp only [zfp, ↓reduceIte, Nat.reduceEqDiff]; rfl)) (by first | (simp only [zfp, ↓reduceIte, Nat.reduceEqDiff]; done) | (simp only [zfp, ↓reduceIte, Nat.reduceEqDiff]; rfl)) (by first | (simp only [zfp, ↓reduceIte, Nat.reduceEqDiff]; done) | (simp only [zfp, ↓reduceIte, Nat.reduceEqDiff]; rfl)) rfl
    have p1 : (op == 1) = false := beq_eq_false_iff_ne.mpr o1
    have p2 : (op == 2) = false := beq_eq_false_iff_ne.mpr o2
    have p3 : (op == 3) = false := beq_eq_false_iff_ne.mpr o3
    have p4 : (op == 4) = false := beq_eq_false_iff_ne.mpr o4
    have p5 : (op == 5) = false := beq_eq_false_iff_ne.mpr o5
    rw [one_no smallT op (.mk k n1 lg l s1 i1 kg ks) (by omega) (by omega) (by omega) (.inl o5)]
    simp only [simB, zbo, Nat.reduceBEq, own0, ↓reduceIte, Nat.reduceEqDiff, Nat.reduceAdd, env0, List.getElem?_cons_zero, List.getElem?_cons_succ, zdv, zdw, zdx, zdy, zdz, zea, zeb, zec, ia22, ld31, zed, zee, zef, zeg, zeh, zei, zej, zek, zel, zem, zen, zeo, zep, zeq, zer, fa_0, fa_1, zes, bd_0, bd_2, zet, fd_1, zeu, Nat.zero_add, zev, List.toList_toArray, len9, ix9, zew, zex, zey, zez, zfa, zeroT, encT, cellsT, ldT_a, ldT_0, ldT_2, ldT_4, faT_0, faT_2, faT_4, Nat.reduceAdd, Int.reduceSub, lenTk, i_eqlV, Int.reduceBEq, zds, bdT_00, st_Tt, stT_6, b4, p1, p2, p3, p4, p5]
    exact finish_T2 _ _ _ _ _ T0 _ _ _ _ _ (by first | (simp only [zfp, ↓reduceIte, Nat.reduceEqDiff]; done) | (simp only [zfp, ↓reduceIte, Nat.reduceEqDiff]; rfl)) (by first | (simp only [zfp, ↓reduceIte, Nat.reduceEqDiff]; done) | (simp only [zfp, ↓reduceIte, Nat.reduceEqDiff]; rfl)) (by first | (simp only [zfp, ↓reduceIte, Nat.reduceEqDiff]; done) | (simp only [zfp, ↓reduceIte, Nat.reduceEqDiff]; rfl)) rfl
  · have b4 : (k == 4) = false := by exact beq_eq_false_iff_ne.mpr k4
    by_cases o12 : op = 1 ∨ op = 2
    · rw [one_no smallT op (.mk k n1 lg l s1 i1 kg ks) (fun h => k4 h.2.1) (by omega) (by omega) (.inl (by omega))]
      rcases o12 with rfl | rfl
      · simp only [simB, zbo, Nat.reduceBEq, own0, ↓reduceIte, Nat.reduceEqDiff, Nat.reduceAdd, env0, List.getElem?_cons_zero, List.getElem?_cons_succ, zdv, zdw, zdx, zdy, zdz, zea, zeb, zec, ia22, ld31, zed, zee, zef, zeg, zeh, zei, zej, zek, zel, zem, zen, zeo, zep, zeq, zer, fa_0, fa_1, zes, bd_0, bd_2, zet, fd_1, zeu, Nat.zero_add, zev, List.toList_toArray, len9, ix9, zew, zex, zey, zez, zfa, zeroT, encT, cellsT, ldT_a, ldT_0, ldT_2, ldT_4, faT_0, faT_2, faT_4, Nat.reduceAdd, Int.reduceSub, lenTk, i_eqlV, Int.reduceBEq, zds, bdT_00, st_Tt, stT_6, b4]
        exact finish_T2 _ _ _ _ _ T0 _ _ _ _ _ (by first | (simp only [zfp, ↓reduceIte, Nat.reduceEqDiff]; done) | (simp only [zfp, ↓reduceIte, Nat.reduceEqDiff]; rfl)) (by first | (simp only [zfp, ↓reduceIte, Nat.reduceEqDiff]; done) | (simp only [zfp, ↓reduceIte, Nat.reduceEqDiff]; rfl)) (by first | (simp only [zfp, ↓reduceIte, Nat.reduceEqDiff]; done) | (simp only [zfp, ↓reduceIte, Nat.reduceEqDiff]; rfl)) rfl
      · simp only [simB, zbo, Nat.reduceBEq, own0, ↓reduceIte, Nat.reduceEqDiff, Nat.reduceAdd, env0, List.getElem?_cons_zero, List.getElem?_cons_succ, zdv, zdw, zdx, zdy, zdz, zea, zeb, zec, ia22, ld31, zed, zee, zef, zeg, zeh, zei, zej, zek, zel, zem, zen, zeo, zep, zeq, zer, fa_0, fa_1, zes, bd_0, bd_2, zet, fd_1, zeu, Nat.zero_add, zev, List.toList_toArray, len9, ix9, zew, zex, zey, zez, zfa, zeroT, encT, cellsT, ldT_a, ldT_0, ldT_2, ldT_4, faT_0, faT_2, faT_4, Nat.reduceAdd, Int.reduceSub, lenTk, i_eqlV, Int.reduceBEq, zds, bdT_00, st_Tt, stT_6, b4]
        exact finish_T2 _ _ _ _ _ T0 _ _ _ _ _ (by first | (simp only [zfp, ↓reduceIte, Nat.reduceEqDiff]; done) | (simp only [zfp, ↓reduceIte, Nat.reduceEqDiff]; rfl)) (by first | (simp only [zfp, ↓reduceIte, Nat.reduceEqDiff]; done) | (simp only [zfp, ↓reduceIte, Nat.reduceEqDiff]; rfl)) (by first | (simp only [zfp, ↓reduceIte, Nat.reduceEqDiff]; done) | (simp only [zfp, ↓reduceIte, Nat.reduceEqDiff]; rfl)) rfl
    have o1 : op ≠ 1 := fun h => o12 (.inl h)
    have o2 : op ≠ 2 := fun h => o12 (.inr h)
    by_cases o3 : op = 3
    · subst o3
      by_cases k5 : k = 5
      · rw [one_3 smallT (.mk k n1 lg l s1 i1 kg ks) k5]
        have b5 : (k == 5) = true := by rw [k5]; rfl
        simp only [simB, zbo, Nat.reduceBEq, own0, ↓reduceIte, Nat.reduceEqDiff, Nat.reduceAdd, env0, List.getElem?_cons_zero, List.getElem?_cons_succ, zdv, zdw, zdx, zdy, zdz, zea, zeb, zec, ia22, ld31, zed, zee, zef, zeg, zeh, zei, zej, zek, zel, zem, zen, zeo, zep, zeq, zer, fa_0, fa_1, zes, bd_0, bd_2, zet, fd_1, zeu, Nat.zero_add, zev, List.toList_toArray, len9, ix9, zew, zex, zey, zez, zfa, zeroT, encT, cellsT, ldT_a, ldT_0, ldT_2, ldT_4, faT_0, faT_2, faT_4, Nat.reduceAdd, Int.reduceSub, lenTk, i_eqlV, Int.reduceBEq, zds, bdT_00, st_Tt, stT_6, b4, b5, c1]
        exact finish_T2 _ _ _ _ _ (smallT (ks.length : Int)) _ _ _ _ _ (by first | (simp only [zfp, ↓reduceIte, Nat.reduceEqDiff]; done) | (simp only [zfp, ↓reduceIte, Nat.reduceEqDiff]; rfl)) (by first | (simp only [zfp, ↓reduceIte, Nat.reduceEqDiff]; done) | (simp only [zfp, ↓reduceIte, Nat.reduceEqDiff]; rfl)) (by first | (simp only [zfp, ↓reduceIte, Nat.reduceEqDiff]; done) | (simp only [zfp, ↓reduceIte, Nat.reduceEqDiff]; rfl)) rfl
      · rw [one_no smallT 3 (.mk k n1 lg l s1 i1 kg ks) (by omega) (fun h => k5 h.2) (by omega) (.inl (by decide))]
        have b5 : (k == 5) = false := beq_eq_false_iff_ne.mpr k5
        simp only [simB, zbo, Nat.reduceBEq, own0, ↓reduceIte, Nat.reduceEqDiff, Nat.reduceAdd, env0, List.getElem?_cons_zero, List.getElem?_cons_succ, zdv, zdw, zdx, zdy, zdz, zea, zeb, zec, ia22, ld31, zed, zee, zef, zeg, zeh, zei, zej, zek, zel, zem, zen, zeo, zep, zeq, zer, fa_0, fa_1, zes, bd_0, bd_2, zet, fd_1, zeu, Nat.zero_add, zev, List.toList_toArray, len9, ix9, zew, zex, zey, zez, zfa, zeroT, encT, cellsT, ldT_a, ldT_0, ldT_2, ldT_4, faT_0, faT_2, faT_4, Nat.reduceAdd, Int.reduceSub, lenTk, i_eqlV, Int.reduceBEq, zds, bdT_00, st_Tt, stT_6, b4, b5]
        exact finish_T2 _ _ _ _ _ T0 _ _ _ _ _ (by first | (simp only [zfp, ↓reduceIte, Nat.reduceEqDiff]; done) | (simp only [zfp, ↓reduceIte, Nat.reduceEqDiff]; rfl)) (by first | (simp only [zfp, ↓reduceIte, Nat.reduceEqDiff]; done) | (simp only [zfp, ↓reduceIte, Nat.reduceEqDiff]; rfl)) (by first | (simp only [zfp, ↓reduceIte, Nat.reduceEqDiff]; done) | (simp only [zfp, ↓reduceIte, Nat.reduceEqDiff]; rfl)) rfl
    by_cases o4 : op = 4
    · subst o4
      by_cases k6 : k = 6
      · rw [one_4 smallT (.mk k n1 lg l s1 i1 kg ks) k6]
        have b6 : (k == 6) = true := by rw [k6]; rfl
        simp only [simB, zbo, Nat.reduceBEq, own0, ↓reduceIte, Nat.reduceEqDiff, Nat.reduceAdd, env0, List.getElem?_cons_zero, List.getElem?_cons_succ, zdv, zdw, zdx, zdy, zdz, zea, zeb, zec, ia22, ld31, zed, zee, zef, zeg, zeh, zei, zej, zek, zel, zem, zen, zeo, zep, zeq, zer, fa_0, fa_1, zes, bd_0, bd_2, zet, fd_1, zeu, Nat.zero_add, zev, List.toList_toArray, len9, ix9, zew, zex, zey, zez, zfa, zeroT, encT, cellsT, ldT_a, ldT_0, ldT_2, ldT_4, faT_0, faT_2, faT_4, Nat.reduceAdd, Int.reduceSub, lenTk, i_eqlV, Int.reduceBEq, zds, bdT_00, st_Tt, stT_6, b4, b6, c2]
        exact finish_T2 _ _ _ _ _ (smallT (s1.length : Int)) _ _ _ _ _ (by first | (simp only [zfp, ↓reduceIte, Nat.reduceEqDiff]; done) | (simp only [zfp, ↓reduceIte, Nat.reduceEqDiff]; rfl)) (by first | (simp only [zfp, ↓reduceIte, Nat.reduceEqDiff]; done) | (simp only [zfp, ↓reduceIte, Nat.reduceEqDiff]; rfl)) (by first | (simp only [zfp, ↓reduceIte, Nat.reduceEqDiff]; done) | (simp only [zfp, ↓reduceIte, Nat.reduceEqDiff]; rfl)) rfl
      · rw [one_no smallT 4 (.mk k n1 lg l s1 i1 kg ks) (by omega) (by omega) (fun h => k6 h.2) (.inl (by decide))]
        have b6 : (k == 6) = false := beq_eq_false_iff_ne.mpr k6
        simp only [simB, zbo, Nat.reduceBEq, own0, ↓reduceIte, Nat.reduceEqDiff, Nat.reduceAdd, env0, List.getElem?_cons_zero, List.getElem?_cons_succ, zdv, zdw, zdx, zdy, zdz, zea, zeb, zec, ia22, ld31, zed, zee, zef, zeg, zeh, zei, zej, zek, zel, zem, zen, zeo, zep, zeq, zer, fa_0, fa_1, zes, bd_0, bd_2, zet, fd_1, zeu, Nat.zero_add, zev, List.toList_toArray, len9, ix9, zew, zex, zey, zez, zfa, zeroT, encT, cellsT, ldT_a, ldT_0, ldT_2, ldT_4, faT_0, faT_2, faT_4, Nat.reduceAdd, Int.reduceSub, lenTk, i_eqlV, Int.reduceBEq, zds, bdT_00, st_Tt, stT_6, b4, b6]
        exact finish_T2 _ _ _ _ _ T0 _ _ _ _ _ (by first | (simp only [zfp, ↓reduceIte, Nat.reduceEqDiff]; done) | (simp only [zfp, ↓reduceIte, Nat.reduceEqDiff]; rfl)) (by first | (simp only [zfp, ↓reduceIte, Nat.reduceEqDiff]; done) | (simp only [zfp, ↓reduceIte, Nat.reduceEqDiff]; rfl)) (by first | (simp only [zfp, ↓reduceIte, Nat.reduceEqDiff]; done) | (simp only [zfp, ↓reduceIte, Nat.reduceEqDiff]; rfl)) rfl
    by_cases o5 : op = 5
    · subst o5
      cases hI : itemsT (.mk k n1 lg l s1 i1 kg ks) with
      | none =>
        rw [hI] at ct
        simp only [itemsV, cellsT] at ct
        rw [one_no smallT 5 (.mk k n1 lg l s1 i1 kg ks) (by omega) (by omega) (by omega) (.inr hI)]
        simp only [simB, zbo, Nat.reduceBEq, own0, ↓reduceIte, Nat.reduceEqDiff, Nat.reduceAdd, env0, List.getElem?_cons_zero, List.getElem?_cons_succ, zdv, zdw, zdx, zdy, zdz, zea, zeb, zec, ia22, ld31, zed, zee, zef, zeg, zeh, zei, zej, zek, zel, zem, zen, zeo, zep, zeq, zer, fa_0, fa_1, zes, bd_0, bd_2, zet, fd_1, zeu, Nat.zero_add, zev, List.toList_toArray, len9, ix9, zew, zex, zey, zez, zfa, zeroT, encT, cellsT, ldT_a, ldT_0, ldT_2, ldT_4, faT_0, faT_2, faT_4, Nat.reduceAdd, Int.reduceSub, lenTk, i_eqlV, Int.reduceBEq, zds, bdT_00, st_Tt, stT_6, b4, ct]
        exact finish_T2 _ _ _ _ _ T0 _ _ _ _ _ (by first | (simp only [zfp, ↓reduceIte, Nat.reduceEqDiff]; done) | (simp only [zfp, ↓reduceIte, Nat.reduceEqDiff]; rfl)) (by first | (simp only [zfp, ↓reduceIte, Nat.reduceEqDiff]; done) | (simp only [zfp, ↓reduceIte, Nat.reduceEqDiff]; rfl)) (by first | (simp only [zfp, ↓reduceIte, Nat.reduceEqDiff]; done) | (simp only [zfp, ↓reduceIte, Nat.reduceEqDiff]; rfl)) rfl
      | some us =>
        rw [hI] at ct
        simp only [itemsV, cellsT] at ct
        have hu := hit us hI
        have c3 := cn (us.length : Int) ⟨by omega, by omega⟩
        simp only [encT] at c3
        rw [one_5 smallT (.mk k n1 lg l s1 i1 kg ks) us hI]
        simp only [simB, zbo, Nat.reduceBEq, own0, ↓reduceIte, Nat.reduceEqDiff, Nat.reduceAdd, env0, List.getElem?_cons_zero, List.getElem?_cons_succ, zdv, zdw, zdx, zdy, zdz, zea, zeb, zec, ia22, ld31, zed, zee, zef, zeg, zeh, zei, zej, zek, zel, zem, zen, zeo, zep, zeq, zer, fa_0, fa_1, zes, bd_0, bd_2, zet, fd_1, zeu, Nat.zero_add, zev, List.toList_toArray, len9, ix9, zew, zex, zey, zez, zfa, zeroT, encT, cellsT, ldT_a, ldT_0, ldT_2, ldT_4, faT_0, faT_2, faT_4, Nat.reduceAdd, Int.reduceSub, lenTk, i_eqlV, Int.reduceBEq, zds, bdT_00, st_Tt, stT_6, b4, ct, c3]
        exact finish_T2 _ _ _ _ _ (smallT (us.length : Int)) _ _ _ _ _ (by first | (simp only [zfp, ↓reduceIte, Nat.reduceEqDiff]; done) | (simp only [zfp, ↓reduceIte, Nat.reduceEqDiff]; rfl)) (by first | (simp only [zfp, ↓reduceIte, Nat.reduceEqDiff]; done) | (simp only [zfp, ↓reduceIte, Nat.reduceEqDiff]; rfl)) (by first | (simp only [zfp, ↓reduceIte, Nat.reduceEqDiff]; done) | (simp only [zfp, ↓reduceIte, Nat.reduceEqDiff]; rfl)) rfl
    have p1 : (op == 1) = false := beq_eq_false_iff_ne.mpr o1
    have p2 : (op == 2) = false := beq_eq_false_iff_ne.mpr o2
    have p3 : (op == 3) = false := beq_eq_false_iff_ne.mpr o3
    have p4 : (op == 4) = false := beq_eq_false_iff_ne.mpr o4
    have p5 : (op == 5) = false := beq_eq_false_iff_ne.mpr o5
    rw [one_no smallT op (.mk k n1 lg l s1 i1 kg ks) (by omega) (by omega) (by omega) (.inl o5)]
    simp only [simB, zbo, Nat.reduceBEq, own0, ↓reduceIte, Nat.reduceEqDiff, Nat.reduceAdd, env0, List.getElem?_cons_zero, List.getElem?_cons_succ, zdv, zdw, zdx, zdy, zdz, zea, zeb, zec, ia22, ld31, zed, zee, zef, zeg, zeh, zei, zej, zek, zel, zem, zen, zeo, zep, zeq, zer, fa_0, fa_1, zes, bd_0, bd_2, zet, fd_1, zeu, Nat.zero_add, zev, List.toList_toArray, len9, ix9, zew, zex, zey, zez, zfa, zeroT, encT, cellsT, ldT_a, ldT_0, ldT_2, ldT_4, faT_0, faT_2, faT_4, Nat.reduceAdd, Int.reduceSub, lenTk, i_eqlV, Int.reduceBEq, zds, bdT_00, st_Tt, stT_6, b4, p1, p2, p3, p4, p5]
    exact finish_T2 _ _ _ _ _ T0 _ _ _ _ _ (by first | (simp only [zfp, ↓reduceIte, Nat.reduceEqDiff]; done) | (simp only [zfp, ↓reduceIte, Nat.reduceEqDiff]; rfl)) (by first | (simp only [zfp, ↓reduceIte, Nat.reduceEqDiff]; done) | (simp only [zfp, ↓reduceIte, Nat.reduceEqDiff]; rfl)) (by first | (simp only [zfp, ↓reduceIte, Nat.reduceEqDiff]; done) | (simp only [zfp, ↓reduceIte, Nat.reduceEqDiff]; rfl)) rfl
set_option maxHeartbeats 16000000 in
theorem roneA_eq (R d : Nat) (hR : 100000 ≤ R) (op : Int) (t : T) (hn : nodT t ≤ 1999) (hk : (kidsT t).length ≤ 1000000) (hs : (strT t).length ≤ 1000000) : evalFn Tryz.prog cfg0 R (d+6) 24 [.tree (.int .i64 op), .tree (encT t)] = some (.tree (.tup [encT (oneT intT op t).1, .bool (oneT intT op t).2]), [[], []]) := by
  rw [evalFn_go _ Tryz.func24 (by unfold Tryz.f24; rfl) (by unfold Tryz.f24; decide) (Nat.le_of_ble_eq_true (by unfold Tryz.f24; rfl)) (by kernel_rfl)]
  have cn (v : Int) (hv : I64 v) := fun D st => callA_trees (cfg := cfg0) (d := D) (s := st) (f := 54) (vs := [.int .i64 v]) rfl (rInt_eq R (d+1) hR v hv)
  have ct := fun D st => callA_trees (cfg := cfg0) (d := D) (s := st) (f := 55) (vs := [encT t]) rfl (rItemsA_eq R (d+4) t hn (by omega))
  have hit := items_len t
  obtain ⟨k, n1, lg, l, s1, i1, kg, ks⟩ := t
  simp only [kidsT, strT] at hk hs
  have c1 := cn (ks.length : Int) ⟨by omega, by omega⟩
  have c2 := cn (s1.length : Int) ⟨by omega, by omega⟩
  simp only [encT] at c1 c2 ct
  by_cases k4 : k = 4
  · have b4 : (k == 4) = true := by rw [k4]; rfl
    have b5 : (k == 5) = false := by rw [k4]; rfl
    have b6 : (k == 6) = false := by rw [k4]; rfl
    by_cases o1 : op = 1
    · subst o1
      by_cases k2 : ks.length = 2
      · obtain ⟨x, y, rfl⟩ := len_two ks k2
        rw [one_12 intT 1 (.mk k n1 lg l s1 i1 kg [x, y]) x (by decide) k4 rfl rfl]
        have ia : ∀ st, indexAddrA Tryz.prog 22 st (.sl (cellsK [x, y]) 2 (gr kg)) (.int .i64 0) = some (.rptr (cellsK [x, y])) := fun st => ia_K st [x, y] (gr kg) 0 (by simp)
        have ld := fun st => ld_KW st x [y]
        have w2 : (((2 : Nat) : Int) == 2) = true := rfl
        have f5 := i_sub Tryz.prog 3 (1 : Int) 1 (by omega) (by omega)
        simp only [simB, zbo, Nat.reduceBEq, own0, ↓reduceIte, Nat.reduceEqDiff, Nat.reduceAdd, env0, List.getElem?_cons_zero, List.getElem?_cons_succ, zdv, zdw, zdx, zdy, zdz, zea, zeb, zec, ia22, ld31, zed, zee, zef, zeg, zeh, zei, zej, zek, zel, zem, zen, zeo, zep, zeq, zer, fa_0, fa_1, zes, bd_0, bd_2, zet, fd_1, zeu, Nat.zero_add, zev, List.toList_toArray, len9, ix9, zew, zex, zey, zez, zfa, zeroT, encT, cellsT, ldT_a, ldT_0, ldT_2, ldT_4, faT_0, faT_2, faT_4, Nat.reduceAdd, Int.reduceSub, lenTk, i_eqlV, Int.reduceBEq, zds, bdT_00, st_Tt, stT_6, List.length_cons, List.length_nil, Nat.zero_add, b4, w2, ia, ld, f5]
        exact finish_T2 _ _ _ _ _ (x) _ _ _ _ _ (by first | (simp only [zfp, ↓reduceIte, Nat.reduceEqDiff]; done) | (simp only [zfp, ↓reduceIte, Nat.reduceEqDiff]; rfl)) (by first | (simp only [zfp, ↓reduceIte, Nat.reduceEqDiff]; done) | (simp only [zfp, ↓reduceIte, Nat.reduceEqDiff]; rfl)) (by first | (simp only [zfp, ↓reduceIte, Nat.reduceEqDiff]; done) | (simp only [zfp, ↓reduceIte, Nat.reduceEqDiff]; rfl)) rfl
      · have w2 : ((ks.length : Int) == 2) = false := beq_eq_false_iff_ne.mpr (by omega)
        rw [one_no intT 1 (.mk k n1 lg l s1 i1 kg ks) (fun h => k2 h.2.2) (by omega) (by omega) (.inl (by decide))]
        simp only [simB, zbo, Nat.reduceBEq, own0, ↓reduceIte, Nat.reduceEqDiff, Nat.reduceAdd, env0, List.getElem?_cons_zero, List.getElem?_cons_succ, zdv, zdw, zdx, zdy, zdz, zea, zeb, zec, ia22, ld31, zed, zee, zef, zeg, zeh, zei, zej, zek, zel, zem, zen, zeo, zep, zeq, zer, fa_0, fa_1, zes, bd_0, bd_2, zet, fd_1, zeu, Nat.zero_add, zev, List.toList_toArray, len9, ix9, zew, zex, zey, zez, zfa, zeroT, encT, cellsT, ldT_a, ldT_0, ldT_2, ldT_4, faT_0, faT_2, faT_4, Nat.reduceAdd, Int.reduceSub, lenTk, i_eqlV, Int.reduceBEq, zds, bdT_00, st_Tt, stT_6, b4, w2]
        exact finish_T2 _ _ _ _ _ T0 _ _ _ _ _ (by first | (simp only [zfp, ↓reduceIte, Nat.reduceEqDiff]; done) | (simp only [zfp, ↓reduceIte, Nat.reduceEqDiff]; rfl)) (by first | (simp only [zfp, ↓reduceIte, Nat.reduceEqDiff]; done) | (simp only [zfp, ↓reduceIte, Nat.reduceEqDiff]; rfl)) (by first | (simp only [zfp, ↓reduceIte, Nat.reduceEqDiff]; done) | (simp only [zfp, ↓reduceIte, Nat.reduceEqDiff]; rfl)) rfl
    by_cases o2 : op = 2
    · subst o2
      by_cases k2 : ks.length = 2
      · obtain ⟨x, y, rfl⟩ := len_two ks k2
        rw [one_12 intT 2 (.mk k n1 lg l s1 i1 kg [x, y]) y (by decide) k4 rfl rfl]
        have ia : ∀ st, indexAddrA Tryz.prog 22 st (.sl (cellsK [x, y]) 2 (gr kg)) (.int .i64 1) = some (.rptr (cellsK [y])) := fun st => ia_K st [x, y] (gr kg) 1 (by simp)
        have ld := fun st => ld_KW st y []
        have w2 : (((2 : Nat) : Int) == 2) = true := rfl
        have f5 := i_sub Tryz.prog 3 (2 : Int) 1 (by omega) (by omega)
        simp only [simB, zbo, Nat.reduceBEq, own0, ↓reduceIte, Nat.reduceEqDiff, Nat.reduceAdd, env0, List.getElem?_cons_zero, List.getElem?_cons_succ, zdv, zdw, zdx, zdy, zdz, zea, zeb, zec, ia22, ld31, zed, zee, zef, zeg, zeh, zei, zej, zek, zel, zem, zen, zeo, zep, zeq, zer, fa_0, fa_1, zes, bd_0, bd_2, zet, fd_1, zeu, Nat.zero_add, zev, List.toList_toArray, len9, ix9, zew, zex, zey, zez, zfa, zeroT, encT, cellsT, ldT_a, ldT_0, ldT_2, ldT_4, faT_0, faT_2, faT_4, Nat.reduceAdd, Int.reduceSub, lenTk, i_eqlV, Int.reduceBEq, zds, bdT_00, st_Tt, stT_6, List.length_cons, List.length_nil, Nat.zero_add, b4, w2, ia, ld, f5]
        exact finish_T2 _ _ _ _ _ (y) _ _ _ _ _ (by first | (simp only [zfp, ↓reduceIte, Nat.reduceEqDiff]; done) | (simp only [zfp, ↓reduceIte, Nat.reduceEqDiff]; rfl)) (by first | (simp only [zfp, ↓reduceIte, Nat.reduceEqDiff]; done) | (simp only [zfp, ↓reduceIte, Nat.reduceEqDiff]; rfl)) (by first | (simp only [zfp, ↓reduceIte, Nat.reduceEqDiff]; done) | (simp only [zfp, ↓reduceIte, Nat.reduceEqDiff]; rfl)) rfl
      · have w2 : ((ks.length : Int) == 2) = false := beq_eq_false_iff_ne.mpr (by omega)
        rw [one_no intT 2 (.mk k n1 lg l s1 i1 kg ks) (fun h => k2 h.2.2) (by omega) (by omega) (.inl (by decide))]
        simp only [simB, zbo, Nat.reduceBEq, own0, ↓reduceIte, Nat.reduceEqDiff, Nat.reduceAdd, env0, List.getElem?_cons_zero, List.getElem?_cons_succ, zdv, zdw, zdx, zdy, zdz, zea, zeb, zec, ia22, ld31, zed, zee, zef, zeg, zeh, zei, zej, zek, zel, zem, zen, zeo, zep, zeq, zer, fa_0, fa_1, zes, bd_0, bd_2, zet, fd_1, zeu, Nat.zero_add, zev, List.toList_toArray, len9, ix9, zew, zex, zey, zez, zfa, zeroT, encT, cellsT, ldT_a, ldT_0, ldT_2, ldT_4, faT_0, faT_2, faT_4, Nat.reduceAdd, Int.reduceSub, lenTk, i_eqlV, Int.reduceBEq, zds, bdT_00, st_Tt, stT_6, b4, w2]
        exact finish_T2 _ _ _ _ _ T0 _ _ _ _ _ (by first | (simp only [zfp, ↓reduceIte, Nat.reduceEqDiff]; done) | (simp only [zfp, ↓reduceIte, Nat.reduceEqDiff]; rfl)) (by first | (simp only [zfp, ↓reduceIte, Nat.reduceEqDiff]; done) | (simp only [zfp, ↓reduceIte, Nat.reduceEqDiff]; rfl)) (by first | (simp only [zfp, ↓reduceIte, Nat.reduceEqDiff]; done) | (simp only [zfp, ↓reduceIte, Nat.reduceEqDiff]; rfl)) rfl
    by_cases o3 : op = 3
    · subst o3
      rw [one_no intT 3 (.mk k n1 lg l s1 i1 kg ks) (by omega) (fun h => by have := h.2; simp only [kindT] at this; omega) (by omega) (.inl (by decide))]
      simp only [simB, zbo, Nat.reduceBEq, own0, ↓reduceIte, Nat.reduceEqDiff, Nat.reduceAdd, env0, List.getElem?_cons_zero, List.getElem?_cons_succ, zdv, zdw, zdx, zdy, zdz, zea, zeb, zec, ia22, ld31, zed, zee, zef, zeg, zeh, zei, zej, zek, zel, zem, zen, zeo, zep, zeq, zer, fa_0, fa_1, zes, bd_0, bd_2, zet, fd_1, zeu, Nat.zero_add, zev, List.toList_toArray, len9, ix9, zew, zex, zey, zez, zfa, zeroT, encT, cellsT, ldT_a, ldT_0, ldT_2, ldT_4, faT_0, faT_2, faT_4, Nat.reduceAdd, Int.reduceSub, lenTk, i_eqlV, Int.reduceBEq, zds, bdT_00, st_Tt, stT_6, b4, b5]
      exact finish_T2 _ _ _ _ _ T0 _ _ _ _ _ (by first | (simp only [zfp, ↓reduceIte, Nat.reduceEqDiff]; done) | (simp only [zfp, ↓reduceIte, Nat.reduceEqDiff]; rfl)) (by first | (simp only [zfp, ↓reduceIte, Nat.reduceEqDiff]; done) | (simp only [zfp, ↓reduceIte, Nat.reduceEqDiff]; rfl)) (by first | (simp only [zfp, ↓reduceIte, Nat.reduceEqDiff]; done) | (simp only [zfp, ↓reduceIte, Nat.reduceEqDiff]; rfl)) rfl
    by_cases o4 : op = 4
    · subst o4
      rw [one_no intT 4 (.mk k n1 lg l s1 i1 kg ks) (by omega) (by omega) (fun h => by have := h.2; simp only [kindT] at this; omega) (.inl (by decide))]
      simp only [simB, zbo, Nat.reduceBEq, own0, ↓reduceIte, Nat.reduceEqDiff, Nat.reduceAdd, env0, List.getElem?_cons_zero, List.getElem?_cons_succ, zdv, zdw, zdx, zdy, zdz, zea, zeb, zec, ia22, ld31, zed, zee, zef, zeg, zeh, zei, zej, zek, zel, zem, zen, zeo, zep, zeq, zer, fa_0, fa_1, zes, bd_0, bd_2, zet, fd_1, zeu, Nat.zero_add, zev, List.toList_toArray, len9, ix9, zew, zex, zey, zez, zfa, zeroT, encT, cellsT, ldT_a, ldT_0, ldT_2, ldT_4, faT_0, faT_2, faT_4, Nat.reduceAdd, Int.reduceSub, lenTk, i_eqlV, Int.reduceBEq, zds, bdT_00, st_Tt, stT_6, b4, b6]
      exact finish_T2 _ _ _ _ _ T0 _ _ _ _ _ (by first | (simp only [zfp, ↓reduceIte, Nat.reduceEqDiff]; done) | (simp only [zfp, ↓reduceIte, Nat.reduceEqDiff]; rfl)) (by first | (simp only [zfp, ↓reduceIte, Nat.reduceEqDiff]; done) | (simp only [zfp, ↓reduceIte, Nat.reduceEqDiff]; rfl)) (by first | (simp only [zfp, ↓reduceIte, Nat.reduceEqDiff]; done) | (simp only [zfp, ↓reduceIte, Nat.reduceEqDiff]; rfl)) rfl
    by_cases o5 : op = 5
    · subst o5
      cases hI : itemsT (.mk k n1 lg l s1 i1 kg ks) with
      | none =>
        rw [hI] at ct
        simp only [itemsV, cellsT] at ct
        rw [one_no intT 5 (.mk k n1 lg l s1 i1 kg ks) (by omega) (by omega) (by omega) (.inr hI)]
        simp only [simB, zbo, Nat.reduceBEq, own0, ↓reduceIte, Nat.reduceEqDiff, Nat.reduceAdd, env0, List.getElem?_cons_zero, List.getElem?_cons_succ, zdv, zdw, zdx, zdy, zdz, zea, zeb, zec, ia22, ld31, zed, zee, zef, zeg, zeh, zei, zej, zek, zel, zem, zen, zeo, zep, zeq, zer, fa_0, fa_1, zes, bd_0, bd_2, zet, fd_1, zeu, Nat.zero_add, zev, List.toList_toArray, len9, ix9, zew, zex, zey, zez, zfa, zeroT, encT, cellsT, ldT_a, ldT_0, ldT_2, ldT_4, faT_0, faT_2, faT_4, Nat.reduceAdd, Int.reduceSub, lenTk, i_eqlV, Int.reduceBEq, zds, bdT_00, st_Tt, stT_6, b4, ct]
        exact finish_T2 _ _ _ _ _ T0 _ _ _ _ _ (by first | (simp only [zfp, ↓reduceIte, Nat.reduceEqDiff]; done) | (simp only [zfp, ↓reduceIte, Nat.reduceEqDiff]; rfl)) (by first | (simp only [zfp, ↓reduceIte, Nat.reduceEqDiff]; done) | (simp only [zfp, ↓reduceIte, Nat.reduceEqDiff]; rfl)) (by first | (simp only [zfp, ↓reduceIte, Nat.reduceEqDiff]; done) | (simp only [zfp, ↓reduceIte, Nat.reduceEqDiff]; rfl)) rfl
      | some us =>
        rw [hI] at ct
        simp only [itemsV, cellsT] at ct
        have hu := hit us hI
        have c3 := cn (us.length : Int) ⟨by omega, by omega⟩
        simp only [encT] at c3
        rw [one_5 intT (.mk k n1 lg l s1 i1 kg ks) us hI]
        simp only [simB, zbo, Nat.reduceBEq, own0, ↓reduceIte, Nat.reduceEqDiff, Nat.reduceAdd, env0, List.getElem?_cons_zero, List.getElem?_cons_succ, zdv, zdw, zdx, zdy, zdz, zea, zeb, zec, ia22, ld31, zed, zee, zef, zeg, zeh, zei, zej, zek, zel, zem, zen, zeo, zep, zeq, zer, fa_0, fa_1, zes, bd_0, bd_2, zet, fd_1, zeu, Nat.zero_add, zev, List.toList_toArray, len9, ix9, zew, zex, zey, zez, zfa, zeroT, encT, cellsT, ldT_a, ldT_0, ldT_2, ldT_4, faT_0, faT_2, faT_4, Nat.reduceAdd, Int.reduceSub, lenTk, i_eqlV, Int.reduceBEq, zds, bdT_00, st_Tt, stT_6, b4, ct, c3]
        exact finish_T2 _ _ _ _ _ (intT (us.length : Int)) _ _ _ _ _ (by first | (simp only [zfp, ↓reduceIte, Nat.reduceEqDiff]; done) | (simp only [zfp, ↓reduceIte, Nat.reduceEqDiff]; rfl)) (by first | (simp only [zfp, ↓reduceIte, Nat.reduceEqDiff]; done) | (simp only [zfp, ↓reduceIte, Nat.reduceEqDiff]; rfl)) (by first | (simp only [zfp, ↓reduceIte, Nat.reduceEqDiff]; done) | (simp only [zfp, ↓reduceIte, Nat.reduceEqDiff]; rfl)) rfl
    have p1 : (op == 1) = false := beq_eq_false_iff_ne.mpr o1
    have p2 : (op == 2) = false := beq_eq_false_iff_ne.mpr o2
    have p3 : (op == 3) = false := beq_eq_false_iff_ne.mpr o3
    have p4 : (op == 4) = false := beq_eq_false_iff_ne.mpr o4
    have p5 : (op == 5) = false := beq_eq_false_iff_ne.mpr o5
    rw [one_no intT op (.mk k n1 lg l s1 i1 kg ks) (by omega) (by omega) (by omega) (.inl o5)]
    simp only [simB, zbo, Nat.reduceBEq, own0, ↓reduceIte, Nat.reduceEqDiff, Nat.reduceAdd, env0, List.getElem?_cons_zero, List.getElem?_cons_succ, zdv, zdw, zdx, zdy, zdz, zea, zeb, zec, ia22, ld31, zed, zee, zef, zeg, zeh, zei, zej, zek, zel, zem, zen, zeo, zep, zeq, zer, fa_0, fa_1, zes, bd_0, bd_2, zet, fd_1, zeu, Nat.zero_add, zev, List.toList_toArray, len9, ix9, zew, zex, zey, zez, zfa, zeroT, encT, cellsT, ldT_a, ldT_0, ldT_2, ldT_4, faT_0, faT_2, faT_4, Nat.reduceAdd, Int.reduceSub, lenTk, i_eqlV, Int.reduceBEq, zds, bdT_00, st_Tt, stT_6, b4, p1, p2, p3, p4, p5]
    exact finish_T2 _ _ _ _ _ T0 _ _ _ _ _ (by first | (simp only [zfp, ↓reduceIte, Nat.reduceEqDiff]; done) | (simp only [zfp, ↓reduceIte, Nat.reduceEqDiff]; rfl)) (by first | (simp only [zfp, ↓reduceIte, Nat.reduceEqDiff]; done) | (simp only [zfp, ↓reduceIte, Nat.reduceEqDiff]; rfl)) (by first | (simp only [zfp, ↓reduceIte, Nat.reduceEqDiff]; done) | (simp only [zfp, ↓reduceIte, Nat.reduceEqDiff]; rfl)) rfl
  · have b4 : (k == 4) = false := by exact beq_eq_false_iff_ne.mpr k4
    by_cases o12 : op = 1 ∨ op = 2
    · rw [one_no intT op (.mk k n1 lg l s1 i1 kg ks) (fun h => k4 h.2.1) (by omega) (by omega) (.inl (by omega))]
      rcases o12 with rfl | rfl
      · simp only [simB, zbo, Nat.reduceBEq, own0, ↓reduceIte, Nat.reduceEqDiff, Nat.reduceAdd, env0, List.getElem?_cons_zero, List.getElem?_cons_succ, zdv, zdw, zdx, zdy, zdz, zea, zeb, zec, ia22, ld31, zed, zee, zef, zeg, zeh, zei, zej, zek, zel, zem, zen, zeo, zep, zeq, zer, fa_0, fa_1, zes, bd_0, bd_2, zet, fd_1, zeu, Nat.zero_add, zev, List.toList_toArray, len9, ix9, zew, zex, zey, zez, zfa, zeroT, encT, cellsT, ldT_a, ldT_0, ldT_2, ldT_4, faT_0, faT_2, faT_4, Nat.reduceAdd, Int.reduceSub, lenTk, i_eqlV, Int.reduceBEq, zds, bdT_00, st_Tt, stT_6, b4]
        exact finish_T2 _ _ _ _ _ T0 _ _ _ _ _ (by first | (simp only [zfp, ↓reduceIte, Nat.reduceEqDiff]; done) | (simp only [zfp, ↓reduceIte, Nat.reduceEqDiff]; rfl)) (by first | (simp only [zfp, ↓reduceIte, Nat.reduceEqDiff]; done) | (simp only [zfp, ↓reduceIte, Nat.reduceEqDiff]; rfl)) (by first | (simp only [zfp, ↓reduceIte, Nat.reduceEqDiff]; done) | (simp only [zfp, ↓reduceIte, Nat.reduceEqDiff]; rfl)) rfl
      · simp only [simB, zbo, Nat.reduceBEq, own0, ↓reduceIte, Nat.reduceEqDiff, Nat.reduceAdd, env0, List.getElem?_cons_zero, List.getElem?_cons_succ, zdv, zdw, zdx, zdy, zdz, zea, zeb, zec, ia22, ld31, zed, zee, zef, zeg, zeh, zei, zej, zek, zel, zem, zen, zeo, zep, zeq, zer, fa_0, fa_1, zes, bd_0, bd_2, zet, fd_1, zeu, Nat.zero_add, zev, List.toList_toArray, len9, ix9, zew, zex, zey, zez, zfa, zeroT, encT, cellsT, ldT_a, ldT_0, ldT_2, ldT_4, faT_0, faT_2, faT_4, Nat.reduceAdd, Int.reduceSub, lenTk, i_eqlV, Int.reduceBEq, zds, bdT_00, st_Tt, stT_6, b4]
        exact finish_T2 _ _ _ _ _ T0 _ _ _ _ _ (by first | (simp only [zfp, ↓reduceIte, Nat.reduceEqDiff]; done) | (simp only [zfp, ↓reduceIte, Nat.reduceEqDiff]; rfl)) (by first | (simp only [zfp, ↓reduceIte, Nat.reduceEqDiff]; done) | (simp only [zfp, ↓reduceIte, Nat.reduceEqDiff]; rfl)) (by first | (simp only [zfp, ↓reduceIte, Nat.reduceEqDiff]; done) | (simp only [zfp, ↓reduceIte, Nat.reduceEqDiff]; rfl)) rfl
    have o1 : op ≠ 1 := fun h => o12 (.inl h)
    have o2 : op ≠ 2 := fun h => o12 (.inr h)
    by_cases o3 : op = 3
    · subst o3
      by_cases k5 : k = 5
      · rw [one_3 intT (.mk k n1 lg l s1 i1 kg ks) k5]
        have b5 : (k == 5) = true := by rw [k5]; rfl
        simp only [simB, zbo, Nat.reduceBEq, own0, ↓reduceIte, Nat.reduceEqDiff, Nat.reduceAdd, env0, List.getElem?_cons_zero, List.getElem?_cons_succ, zdv, zdw, zdx, zdy, zdz, zea, zeb, zec, ia22, ld31, zed, zee, zef, zeg, zeh, zei, zej, zek, zel, zem, zen, zeo, zep, zeq, zer, fa_0, fa_1, zes, bd_0, bd_2, zet, fd_1, zeu, Nat.zero_add, zev, List.toList_toArray, len9, ix9, zew, zex, zey, zez, zfa, zeroT, encT, cellsT, ldT_a, ldT_0, ldT_2, ldT_4, faT_0, faT_2, faT_4, Nat.reduceAdd, Int.reduceSub, lenTk, i_eqlV, Int.reduceBEq, zds, bdT_00, st_Tt, stT_6, b4, b5, c1]
        exact finish_T2 _ _ _ _ _ (intT (ks.length : Int)) _ _ _ _ _ (by first | (simp only [zfp, ↓reduceIte, Nat.reduceEqDiff]; done) | (simp only [zfp, ↓reduceIte, Nat.reduceEqDiff]; rfl)) (by first | (simp only [zfp, ↓reduceIte, Nat.reduceEqDiff]; done) | (simp only [zfp, ↓reduceIte, Nat.reduceEqDiff]; rfl)) (by first | (simp only [zfp, ↓reduceIte, Nat.reduceEqDiff]; done) | (simp only [zfp, ↓reduceIte, Nat.reduceEqDiff]; rfl)) rfl
      · rw [one_no intT 3 (.mk k n1 lg l s1 i1 kg ks) (by omega) (fun h => k5 h.2) (by omega) (.inl (by decide))]
        have b5 : (k == 5) = false := beq_eq_false_iff_ne.mpr k5
        simp only [simB, zbo, Nat.reduceBEq, own0, ↓reduceIte, Nat.reduceEqDiff, Nat.reduceAdd, env0, List.getElem?_cons_zero, List.getElem?_cons_succ, zdv, zdw, zdx, zdy, zdz, zea, zeb, zec, ia22, ld31, zed, zee, zef, zeg, zeh, zei, zej, zek, zel, zem, zen, zeo, zep, zeq, zer, fa_0, fa_1, zes, bd_0, bd_2, zet, fd_1, zeu, Nat.zero_add, zev, List.toList_toArray, len9, ix9, zew, zex, zey, zez, zfa, zeroT, encT, cellsT, ldT_a, ldT_0, ldT_2, ldT_4, faT_0, faT_2, faT_4, Nat.reduceAdd, Int.reduceSub, lenTk, i_eqlV, Int.reduceBEq, zds, bdT_00, st_Tt, stT_6, b4, b5]
        exact finish_T2 _ _ _ _ _ T0 _ _ _ _ _ (by first | (simp only [zfp, ↓reduceIte, Nat.reduceEqDiff]; done) | (simp only [zfp, ↓reduceIte, Nat.reduceEqDiff]; rfl)) (by first | (simp only [zfp, ↓reduceIte, Nat.reduceEqDiff]; done) | (simp only [zfp, ↓reduceIte, Nat.reduceEqDiff]; rfl)) (by first | (simp only [zfp, ↓reduceIte, Nat.reduceEqDiff]; done) | (simp only [zfp, ↓reduceIte, Nat.reduceEqDiff]; rfl)) rfl
    by_cases o4 : op = 4
    · subst o4
      by_cases k6 : k = 6
      · rw [one_4 intT (.mk k n1 lg l s1 i1 kg ks) k6]
        have b6 : (k == 6) = true := by rw [k6]; rfl
        simp only [simB, zbo, Nat.reduceBEq, own0, ↓reduceIte, Nat.reduceEqDiff, Nat.reduceAdd, env0, List.getElem?_cons_zero, List.getElem?_cons_succ, zdv, zdw, zdx, zdy, zdz, zea, zeb, zec, ia22, ld31, zed, zee, zef, zeg, zeh, zei, zej, zek, zel, zem, zen, zeo, zep, zeq, zer, fa_0, fa_1, zes, bd_0, bd_2, zet, fd_1, zeu, Nat.zero_add, zev, List.toList_toArray, len9, ix9, zew, zex, zey, zez, zfa, zeroT, encT, cellsT, ldT_a, ldT_0, ldT_2, ldT_4, faT_0, faT_2, faT_4, Nat.reduceAdd, Int.reduceSub, lenTk, i_eqlV, Int.reduceBEq, zds, bdT_00, st_Tt, stT_6, b4, b6, c2]
        exact finish_T2 _ _ _ _ _ (intT (s1.length : Int)) _ _ _ _ _ (by first | (simp only [zfp, ↓reduceIte, Nat.reduceEqDiff]; done) | (simp only [zfp, ↓reduceIte, Nat.reduceEqDiff]; rfl)) (by first | (simp only [zfp, ↓reduceIte, Nat.reduceEqDiff]; done) | (simp only [zfp, ↓reduceIte, Nat.reduceEqDiff]; rfl)) (by first | (simp only [zfp, ↓reduceIte, Nat.reduceEqDiff]; done) | (simp only [zfp, ↓reduceIte, Nat.reduceEqDiff]; rfl)) rfl
      · rw [one_no intT 4 (.mk k n1 lg l s1 i1 kg ks) (by omega) (by omega) (fun h => k6 h.2) (.inl (by decide))]
        have b6 : (k == 6) = false := beq_eq_false_iff_ne.mpr k6
        simp only [simB, zbo, Nat.reduceBEq, own0, ↓reduceIte, Nat.reduceEqDiff, Nat.reduceAdd, env0, List.getElem?_cons_zero, List.getElem?_cons_succ, zdv, zdw, zdx, zdy, zdz, zea, zeb, zec, ia22, ld31, zed, zee, zef, zeg, zeh, zei, zej, zek, zel, zem, zen, zeo, zep, zeq, zer, fa_0, fa_1, zes, bd_0, bd_2, zet, fd_1, zeu, Nat.zero_add, zev, List.toList_toArray, len9, ix9, zew, zex, zey, zez, zfa, zeroT, encT, cellsT, ldT_a, ldT_0, ldT_2, ldT_4, faT_0, faT_2, faT_4, Nat.reduceAdd, Int.reduceSub, lenTk, i_eqlV, Int.reduceBEq, zds, bdT_00, st_Tt, stT_6, b4, b6]
        exact finish_T2 _ _ _ _ _ T0 _ _ _ _ _ (by first | (simp only [zfp, ↓reduceIte, Nat.reduceEqDiff]; done) | (simp only [zfp, ↓reduceIte, Nat.reduceEqDiff]; rfl)) (by first | (simp only [zfp, ↓reduceIte, Nat.reduceEqDiff]; done) | (simp only [zfp, ↓reduceIte, Nat.reduceEqDiff]; rfl)) (by first | (simp only [zfp, ↓reduceIte, Nat.reduceEqDiff]; done) | (simp only [zfp, ↓reduceIte, Nat.reduceEqDiff]; rfl)) rfl
    by_cases o5 : op = 5
    · subst o5
      cases hI : itemsT (.mk k n1 lg l s1 i1 kg ks) with
      | none =>
        rw [hI] at ct
        simp only [itemsV, cellsT] at ct
        rw [one_no intT 5 (.mk k n1 lg l s1 i1 kg ks) (by omega) (by omega) (by omega) (.inr hI)]
        simp only [simB, zbo, Nat.reduceBEq, own0, ↓reduceIte, Nat.reduceEqDiff, Nat.reduceAdd, env0, List.getElem?_cons_zero, List.getElem?_cons_succ, zdv, zdw, zdx, zdy, zdz, zea, zeb, zec, ia22, ld31, zed, zee, zef, zeg, zeh, zei, zej, zek, zel, zem, zen, zeo, zep, zeq, zer, fa_0, fa_1, zes, bd_0, bd_2, zet, fd_1, zeu, Nat.zero_add, zev, List.toList_toArray, len9, ix9, zew, zex, zey, zez, zfa, zeroT, encT, cellsT, ldT_a, ldT_0, ldT_2, ldT_4, faT_0, faT_2, faT_4, Nat.reduceAdd, Int.reduceSub, lenTk, i_eqlV, Int.reduceBEq, zds, bdT_00, st_Tt, stT_6, b4, ct]
        exact finish_T2 _ _ _ _ _ T0 _ _ _ _ _ (by first | (simp only [zfp, ↓reduceIte, Nat.reduceEqDiff]; done) | (simp only [zfp, ↓reduceIte, Nat.reduceEqDiff]; rfl)) (by first | (simp only [zfp, ↓reduceIte, Nat.reduceEqDiff]; done) | (simp only [zfp, ↓reduceIte, Nat.reduceEqDiff]; rfl)) (by first | (simp only [zfp, ↓reduceIte, Nat.reduceEqDiff]; done) | (simp only [zfp, ↓reduceIte, Nat.reduceEqDiff]; rfl)) rfl
      | some us =>
        rw [hI] at ct
        simp only [itemsV, cellsT] at ct
        have hu := hit us hI
        have c3 := cn (us.length : Int) ⟨by omega, by omega⟩
        simp only [encT] at c3
        rw [one_5 intT (.mk k n1 lg l s1 i1 kg ks) us hI]
        simp only [simB, zbo, Nat.reduceBEq, own0, ↓reduceIte, Nat.reduceEqDiff, Nat.reduceAdd, env0, List.getElem?_cons_zero, List.getElem?_cons_succ, zdv, zdw, zdx, zdy, zdz, zea, zeb, zec, ia22, ld31, zed, zee, zef, zeg, zeh, zei, zej, zek, zel, zem, zen, zeo, zep, zeq, zer, fa_0, fa_1, zes, bd_0, bd_2, zet, fd_1, zeu, Nat.zero_add, zev, List.toList_toArray, len9, ix9, zew, zex, zey, zez, zfa, zeroT, encT, cellsT, ldT_a, ldT_0, ldT_2, ldT_4, faT_0, faT_2, faT_4, Nat.reduceAdd, Int.reduceSub, lenTk, i_eqlV, Int.reduceBEq, zds, bdT_00, st_Tt, stT_6, b4, ct, c3]
        exact finish_T2 _ _ _ _ _ (intT (us.length : Int)) _ _ _ _ _ (by first | (simp only [zfp, ↓reduceIte, Nat.reduceEqDiff]; done) | (simp only [zfp, ↓reduceIte, Nat.reduceEqDiff]; rfl)) (by first | (simp only [zfp, ↓reduceIte, Nat.reduceEqDiff]; done) | (simp only [zfp, ↓reduceIte, Nat.reduceEqDiff]; rfl)) (by first | (simp only [zfp, ↓reduceIte, Nat.reduceEqDiff]; done) | (simp only [zfp, ↓reduceIte, Nat.reduceEqDiff]; rfl)) rfl
    have p1 : (op == 1) = false := beq_eq_false_iff_ne.mpr o1
    have p2 : (op == 2) = false := beq_eq_false_iff_ne.mpr o2
    have p3 : (op == 3) = false := beq_eq_false_iff_ne.mpr o3
    have p4 : (op == 4) = false := beq_eq_false_iff_ne.mpr o4
    have p5 : (op == 5) = false := beq_eq_false_iff_ne.mpr o5
    rw [one_no intT op (.mk k n1 lg l s1 i1 kg ks) (by omega) (by omega) (by omega) (.inl o5)]
    simp only [simB, zbo, Nat.reduceBEq, own0, ↓reduceIte, Nat.reduceEqDiff, Nat.reduceAdd, env0, List.getElem?_cons_zero, List.getElem?_cons_succ, zdv, zdw, zdx, zdy, zdz, zea, zeb, zec, ia22, ld31, zed, zee, zef, zeg, zeh, zei, zej, zek, zel, zem, zen, zeo, zep, zeq, zer, fa_0, fa_1, zes, bd_0, bd_2, zet, fd_1, zeu, Nat.zero_add, zev, List.toList_toArray, len9, ix9, zew, zex, zey, zez, zfa, zeroT, encT, cellsT, ldT_a, ldT_0, ldT_2, ldT_4, faT_0, faT_2, faT_4, Nat.reduceAdd, Int.reduceSub, lenTk, i_eqlV, Int.reduceBEq, zds, bdT_00, st_Tt, stT_6, b4, p1, p2, p3, p4, p5]
    exact finish_T2 _ _ _ _ _ T0 _ _ _ _ _ (by first | (simp only [zfp, ↓reduceIte, Nat.reduceEqDiff]; done) | (simp only [zfp, ↓reduceIte, Nat.reduceEqDiff]; rfl)) (by first | (simp only [zfp, ↓reduceIte, Nat.reduceEqDiff]; done) | (simp only [zfp, ↓reduceIte, Nat.reduceEqDiff]; rfl)) (by first | (simp only [zfp, ↓reduceIte, Nat.reduceEqDiff]; done) | (simp only [zfp, ↓reduceIte, Nat.reduceEqDiff]; rfl)) rfl
end Go.Ab

/- bif.Two, relictref19.Two. Conditions: limbs in range. -/
namespace Go.Ab
open Go.Proofs
set_option maxRecDepth 100000
set_option linter.unusedSimpArgs false

theorem ldT_4W (t k : Nat) (k' : Int) (b : Bool) (lg : Gk) (l : List Nat) (s : List UInt8) (m : Int) (kg : Gk) (ks : List T) : ldE Tryz.prog 22 ⟨t, .buf (cellsT (.mk k' b lg l s m kg ks))⟩ k 5 = if t = k then some (.sl (cellsK ks) ks.length (gr kg)) else none := ldT_4 _ _ _ _ _ _ _ _
def zOfT (t : T) : Int := numZ (sgnT t) (limT t)
def PlaceP (a b : T) : Prop := kindT a = 1 ∧ kindT b = 5 ∧ isI64 (zOfT a) = true ∧ 1 ≤ zOfT a ∧ zOfT a ≤ (kidsT b).length
theorem i_subW (P : Program) (t : TypeId) (a : Int) : binA P .sub t (.int .i64 a) (.int .i64 1) = some (.int .i64 (IntKind.i64.wrap (a - 1))) := rfl
theorem intZ_yesW {z : Int} (h : isI64 z = true) : intZ z = .tup [.int .i64 z, .bool true] := if_pos h
theorem intZ_noW {z : Int} (h : isI64 z = false) : intZ z = .tup [.int .i64 0, .bool false] := if_neg (by rw [h]; decide)
theorem isI64_W {z : Int} (h : isI64 z = true) : I64 z := by
  unfold isI64 at h
  rw [Bool.and_eq_true, decide_eq_true_eq, decide_eq_true_eq] at h
  exact ⟨h.1, by have := h.2; omega⟩
set_option maxHeartbeats 16000000 in
theorem placeA_eq (R d : Nat) (hR : 100000 ≤ R) (a b : T) (la : Limbs (limT a)) : ∃ w : Int, (PlaceP a b → w = zOfT a - 1) ∧ (∀ ok, (ok = true ↔ PlaceP a b) → evalFn Tryz.prog cfg0 R (d+4) 56 [.tree (encT a), .tree (encT b)] = some (.tree (.tup [.int .i64 w, .bool ok]), [[], []])) := by
  have c0 := fun D st => cInt R d hR (isN_A (sgnT a) (lgT' a) (limT a) la) D st
  have ez : numZ (sgnT a) (limT a) = zOfT a := rfl
  rw [ez] at c0
  obtain ⟨z, hz⟩ : ∃ z, zOfT a = z := ⟨_, rfl⟩
  unfold PlaceP
  rw [hz] at c0 ⊢
  clear ez hz
  obtain ⟨k, b1, lg, l, s, m, kg, ks⟩ := a
  obtain ⟨k', b2, lg', l', s', m', kg', ks'⟩ := b
  simp only [sgnT, limT, lgT', encA] at c0
  simp only [kindT, kidsT]
  by_cases h1 : k = 1
  rotate_left
  · refine ⟨0, fun h => absurd h.1 h1, fun ok hok => ?_⟩
    have : ok = false := by
      cases ok with
      | false => rfl
      | true => exact absurd (hok.1 rfl).1 h1
    subst this
    have w1 : (k != 1) = true := bne_iff_ne.mpr h1
    rw [evalFn_go _ Tryz.func56 (by unfold Tryz.f56; rfl) (by unfold Tryz.f56; decide) (Nat.le_of_ble_eq_true (by unfold Tryz.f56; rfl)) (by kernel_rfl)]
    simp only [simB, zbo, Nat.reduceBEq, own0, ↓reduceIte, Nat.reduceEqDiff, Nat.reduceAdd, env0, List.getElem?_cons_zero, List.getElem?_cons_succ, zdv, zdw, zdx, zdy, zdz, zea, zeb, zec, ia22, ld31, zed, zee, zef, zeg, zeh, zei, zej, zek, zel, zem, zen, zeo, zep, zeq, zer, fa_0, fa_1, zes, bd_0, bd_2, zet, fd_1, zeu, Nat.zero_add, encT, cellsT, ldT_0, faT_0, i_neqV, w1]
    exact finish_ib _ _ _ _ _ _ _ _ _ (by first | (simp only [zfp, ↓reduceIte, Nat.reduceEqDiff]; done) | (simp only [zfp, ↓reduceIte, Nat.reduceEqDiff]; rfl)) (by first | (simp only [zfp, ↓reduceIte, Nat.reduceEqDiff]; done) | (simp only [zfp, ↓reduceIte, Nat.reduceEqDiff]; rfl)) rfl
  have w1 : (k != 1) = false := by rw [h1]; rfl
  by_cases h2 : k' = 5
  rotate_left
  · refine ⟨0, fun h => absurd h.2.1 h2, fun ok hok => ?_⟩
    have : ok = false := by
      cases ok with
      | false => rfl
      | true => exact absurd (hok.1 rfl).2.1 h2
    subst this
    have w2 : (k' != 5) = true := bne_iff_ne.mpr h2
    rw [evalFn_go _ Tryz.func56 (by unfold Tryz.f56; rfl) (by unfold Tryz.f56; decide) (Nat.le_of_ble_eq_true (by unfold Tryz.f56; rfl)) (by kernel_rfl)]
    simp only [simB, zbo, Nat.reduceBEq, own0, ↓reduceIte, Nat.reduceEqDiff, Nat.reduceAdd, env0, List.getElem?_cons_zero, List.getElem?_cons_succ, zdv, zdw, zdx, zdy, zdz, zea, zeb, zec, ia22, ld31, zed, zee, zef, zeg, zeh, zei, zej, zek, zel, zem, zen, zeo, zep, zeq, zer, fa_0, fa_1, zes, bd_0, bd_2, zet, fd_1, zeu, Nat.zero_add, encT, cellsT, ldT_0, faT_0, i_neqV, w1, w2]
    exact finish_ib _ _ _ _ _ _ _ _ _ (by first | (simp only [zfp, ↓reduceIte, Nat.reduceEqDiff]; done) | (simp only [zfp, ↓reduceIte, Nat.reduceEqDiff]; rfl)) (by first | (simp only [zfp, ↓reduceIte, Nat.reduceEqDiff]; done) | (simp only [zfp, ↓reduceIte, Nat.reduceEqDiff]; rfl)) rfl
  have w2 : (k' != 5) = false := by rw [h2]; rfl
  cases h3 : isI64 z with
  | false =>
    rw [intZ_noW h3] at c0
    refine ⟨IntKind.i64.wrap (0 - 1), fun h => (by cases h.2.2.1), fun ok hok => ?_⟩
    have : ok = false := by
      cases ok with
      | false => rfl
      | true => exact absurd (hok.1 rfl).2.2.1 (by decide)
    subst this
    rw [evalFn_go _ Tryz.func56 (by unfold Tryz.f56; rfl) (by unfold Tryz.f56; decide) (Nat.le_of_ble_eq_true (by unfold Tryz.f56; rfl)) (by kernel_rfl)]
    simp only [simB, zbo, Nat.reduceBEq, own0, ↓reduceIte, Nat.reduceEqDiff, Nat.reduceAdd, env0, List.getElem?_cons_zero, List.getElem?_cons_succ, zdv, zdw, zdx, zdy, zdz, zea, zeb, zec, ia22, ld31, zed, zee, zef, zeg, zeh, zei, zej, zek, zel, zem, zen, zeo, zep, zeq, zer, fa_0, fa_1, zes, bd_0, bd_2, zet, fd_1, zeu, Nat.zero_add, encT, cellsT, ldT_0, ldT_1, faT_0, faT_1, Nat.reduceAdd, i_neqV, w1, w2, c0, zds, i_subW]
    exact finish_ib _ _ _ _ _ _ _ _ _ (by first | (simp only [zfp, ↓reduceIte, Nat.reduceEqDiff]; done) | (simp only [zfp, ↓reduceIte, Nat.reduceEqDiff]; rfl)) (by first | (simp only [zfp, ↓reduceIte, Nat.reduceEqDiff]; done) | (simp only [zfp, ↓reduceIte, Nat.reduceEqDiff]; rfl)) rfl
  | true =>
    rw [intZ_yesW h3] at c0
    by_cases h4 : z ≥ 1
    rotate_left
    · refine ⟨IntKind.i64.wrap (z - 1), fun h => absurd h.2.2.2.1 h4, fun ok hok => ?_⟩
      have : ok = false := by
        cases ok with
        | false => rfl
        | true => exact absurd (hok.1 rfl).2.2.2.1 h4
      subst this
      rw [evalFn_go _ Tryz.func56 (by unfold Tryz.f56; rfl) (by unfold Tryz.f56; decide) (Nat.le_of_ble_eq_true (by unfold Tryz.f56; rfl)) (by kernel_rfl)]
      simp only [simB, zbo, Nat.reduceBEq, own0, ↓reduceIte, Nat.reduceEqDiff, Nat.reduceAdd, env0, List.getElem?_cons_zero, List.getElem?_cons_succ, zdv, zdw, zdx, zdy, zdz, zea, zeb, zec, ia22, ld31, zed, zee, zef, zeg, zeh, zei, zej, zek, zel, zem, zen, zeo, zep, zeq, zer, fa_0, fa_1, zes, bd_0, bd_2, zet, fd_1, zeu, Nat.zero_add, encT, cellsT, ldT_0, ldT_1, faT_0, faT_1, Nat.reduceAdd, i_neqV, w1, w2, c0, zds, i_subW, h4]
      exact finish_ib _ _ _ _ _ _ _ _ _ (by first | (simp only [zfp, ↓reduceIte, Nat.reduceEqDiff]; done) | (simp only [zfp, ↓reduceIte, Nat.reduceEqDiff]; rfl)) (by first | (simp only [zfp, ↓reduceIte, Nat.reduceEqDiff]; done) | (simp only [zfp, ↓reduceIte, Nat.reduceEqDiff]; rfl)) rfl
    have hz := isI64_W h3
    have f5 := i_sub Tryz.prog 3 z 1 (by omega) (by have := hz.2; omega)
    refine ⟨z - 1, fun _ => rfl, fun ok hok => ?_⟩
    by_cases h5 : z ≤ (ks'.length : Int)
    · have : ok = true := hok.2 ⟨h1, h2, rfl, h4, h5⟩
      subst this
      rw [evalFn_go _ Tryz.func56 (by unfold Tryz.f56; rfl) (by unfold Tryz.f56; decide) (Nat.le_of_ble_eq_true (by unfold Tryz.f56; rfl)) (by kernel_rfl)]
      simp only [simB, zbo, Nat.reduceBEq, own0, ↓reduceIte, Nat.reduceEqDiff, Nat.reduceAdd, env0, List.getElem?_cons_zero, List.getElem?_cons_succ, zdv, zdw, zdx, zdy, zdz, zea, zeb, zec, ia22, ld31, zed, zee, zef, zeg, zeh, zei, zej, zek, zel, zem, zen, zeo, zep, zeq, zer, fa_0, fa_1, zes, bd_0, bd_2, zet, fd_1, zeu, Nat.zero_add, encT, cellsT, ldT_0, ldT_1, ldT_4, faT_0, faT_1, faT_4, Nat.reduceAdd, i_neqV, w1, w2, c0, zds, f5, h4, lenTk, h5]
      exact finish_ib _ _ _ _ _ _ _ _ _ (by first | (simp only [zfp, ↓reduceIte, Nat.reduceEqDiff]; done) | (simp only [zfp, ↓reduceIte, Nat.reduceEqDiff]; rfl)) (by first | (simp only [zfp, ↓reduceIte, Nat.reduceEqDiff]; done) | (simp only [zfp, ↓reduceIte, Nat.reduceEqDiff]; rfl)) rfl
    · have : ok = false := by
        cases ok with
        | false => rfl
        | true => exact absurd (hok.1 rfl).2.2.2.2 h5
      subst this
      rw [evalFn_go _ Tryz.func56 (by unfold Tryz.f56; rfl) (by unfold Tryz.f56; decide) (Nat.le_of_ble_eq_true (by unfold Tryz.f56; rfl)) (by kernel_rfl)]
      simp only [simB, zbo, Nat.reduceBEq, own0, ↓reduceIte, Nat.reduceEqDiff, Nat.reduceAdd, env0, List.getElem?_cons_zero, List.getElem?_cons_succ, zdv, zdw, zdx, zdy, zdz, zea, zeb, zec, ia22, ld31, zed, zee, zef, zeg, zeh, zei, zej, zek, zel, zem, zen, zeo, zep, zeq, zer, fa_0, fa_1, zes, bd_0, bd_2, zet, fd_1, zeu, Nat.zero_add, encT, cellsT, ldT_0, ldT_1, ldT_4, faT_0, faT_1, faT_4, Nat.reduceAdd, i_neqV, w1, w2, c0, zds, f5, h4, lenTk, h5]
      exact finish_ib _ _ _ _ _ _ _ _ _ (by first | (simp only [zfp, ↓reduceIte, Nat.reduceEqDiff]; done) | (simp only [zfp, ↓reduceIte, Nat.reduceEqDiff]; rfl)) (by first | (simp only [zfp, ↓reduceIte, Nat.reduceEqDiff]; done) | (simp only [zfp, ↓reduceIte, Nat.reduceEqDiff]; rfl)) rfl
set_option maxHeartbeats 16000000 in
theorem rplaceA_eq (R d : Nat) (hR : 100000 ≤ R) (a b : T) (la : Limbs (limT a)) (w : Int) (hw1 : PlaceP a b → w = zOfT a - 1) (hw2 : ¬ PlaceP a b → w = -1) : evalFn Tryz.prog cfg0 R (d+4) 57 [.tree (encT a), .tree (encT b)] = some (.tree (.int .i64 w), [[], []]) := by
  have c0 := fun D st => cRint R d hR (isN_A (sgnT a) (lgT' a) (limT a) la) D st
  have ez : numZ (sgnT a) (limT a) = zOfT a := rfl
  rw [ez] at c0
  obtain ⟨z, hz⟩ : ∃ z, zOfT a = z := ⟨_, rfl⟩
  unfold PlaceP at hw1 hw2
  rw [hz] at c0 hw1 hw2
  clear ez hz
  obtain ⟨k, b1, lg, l, s, m, kg, ks⟩ := a
  obtain ⟨k', b2, lg', l', s', m', kg', ks'⟩ := b
  simp only [sgnT, limT, lgT', encA] at c0
  simp only [kindT, kidsT] at hw1 hw2
  rw [evalFn_go _ Tryz.func57 (by unfold Tryz.f57; rfl) (by unfold Tryz.f57; decide) (Nat.le_of_ble_eq_true (by unfold Tryz.f57; rfl)) (by kernel_rfl)]
  by_cases h1 : k = 1
  rotate_left
  · have w1 : (k != 1) = true := bne_iff_ne.mpr h1
    rw [hw2 (fun h => h1 h.1)]
    cases h3 : isI64 z with
    | false =>
      rw [intZ_noW h3] at c0
      simp only [simB, zbo, Nat.reduceBEq, own0, ↓reduceIte, Nat.reduceEqDiff, Nat.reduceAdd, env0, List.getElem?_cons_zero, List.getElem?_cons_succ, zdv, zdw, zdx, zdy, zdz, zea, zeb, zec, ia22, ld31, zed, zee, zef, zeg, zeh, zei, zej, zek, zel, zem, zen, zeo, zep, zeq, zer, fa_0, fa_1, zes, bd_0, bd_2, zet, fd_1, zeu, Nat.zero_add, encT, cellsT, ldT_0, ldT_1, faT_0, faT_1, Nat.reduceAdd, c0, zds, i_neqV, w1]
      exact finish_i _ _ _ _ _ _ _ (by first | (simp only [zfp, ↓reduceIte, Nat.reduceEqDiff]; done) | (simp only [zfp, ↓reduceIte, Nat.reduceEqDiff]; rfl)) rfl
    | true =>
      rw [intZ_yesW h3] at c0
      simp only [simB, zbo, Nat.reduceBEq, own0, ↓reduceIte, Nat.reduceEqDiff, Nat.reduceAdd, env0, List.getElem?_cons_zero, List.getElem?_cons_succ, zdv, zdw, zdx, zdy, zdz, zea, zeb, zec, ia22, ld31, zed, zee, zef, zeg, zeh, zei, zej, zek, zel, zem, zen, zeo, zep, zeq, zer, fa_0, fa_1, zes, bd_0, bd_2, zet, fd_1, zeu, Nat.zero_add, encT, cellsT, ldT_0, ldT_1, faT_0, faT_1, Nat.reduceAdd, c0, zds, i_neqV, w1]
      exact finish_i _ _ _ _ _ _ _ (by first | (simp only [zfp, ↓reduceIte, Nat.reduceEqDiff]; done) | (simp only [zfp, ↓reduceIte, Nat.reduceEqDiff]; rfl)) rfl
  have w1 : (k != 1) = false := by rw [h1]; rfl
  by_cases h2 : k' = 5
  rotate_left
  · have w2 : (k' != 5) = true := bne_iff_ne.mpr h2
    rw [hw2 (fun h => h2 h.2.1)]
    cases h3 : isI64 z with
    | false =>
      rw [intZ_noW h3] at c0
      simp only [simB, zbo, Nat.reduceBEq, own0, ↓reduceIte, Nat.reduceEqDiff, Nat.reduceAdd, env0, List.getElem?_cons_zero, List.getElem?_cons_succ, zdv, zdw, zdx, zdy, zdz, zea, zeb, zec, ia22, ld31, zed, zee, zef, zeg, zeh, zei, zej, zek, zel, zem, zen, zeo, zep, zeq, zer, fa_0, fa_1, zes, bd_0, bd_2, zet, fd_1, zeu, Nat.zero_add, encT, cellsT, ldT_0, ldT_1, faT_0, faT_1, Nat.reduceAdd, c0, zds, i_neqV, w1, w2]
      exact finish_i _ _ _ _ _ _ _ (by first | (simp only [zfp, ↓reduceIte, Nat.reduceEqDiff]; done) | (simp only [zfp, ↓reduceIte, Nat.reduceEqDiff]; rfl)) rfl
    | true =>
      rw [intZ_yesW h3] at c0
      simp only [simB, zbo, Nat.reduceBEq, own0, ↓reduceIte, Nat.reduceEqDiff, Nat.reduceAdd, env0, List.getElem?_cons_zero, List.getElem?_cons_succ, zdv, zdw, zdx, zdy, zdz, zea, zeb, zec, ia22, ld31, zed, zee, zef, zeg, zeh, zei, zej, zek, zel, zem, zen, zeo, zep, zeq, zer, fa_0, fa_1, zes, bd_0, bd_2, zet, fd_1, zeu, Nat.zero_add, encT, cellsT, ldT_0, ldT_1, faT_0, faT_1, Nat.reduceAdd, c0, zds, i_neqV, w1, w2]
      exact finish_i _ _ _ _ _ _ _ (by first | (simp only [zfp, ↓reduceIte, Nat.reduceEqDiff]; done) | (simp only [zfp, ↓reduceIte, Nat.reduceEqDiff]; rfl)) rfl
  have w2 : (k' != 5) = false := by rw [h2]; rfl
  cases h3 : isI64 z with
  | false =>
    rw [intZ_noW h3] at c0
    rw [hw2 (fun h => by have := h.2.2.1; rw [h3] at this; cases this)]
    simp only [simB, zbo, Nat.reduceBEq, own0, ↓reduceIte, Nat.reduceEqDiff, Nat.reduceAdd, env0, List.getElem?_cons_zero, List.getElem?_cons_succ, zdv, zdw, zdx, zdy, zdz, zea, zeb, zec, ia22, ld31, zed, zee, zef, zeg, zeh, zei, zej, zek, zel, zem, zen, zeo, zep, zeq, zer, fa_0, fa_1, zes, bd_0, bd_2, zet, fd_1, zeu, Nat.zero_add, encT, cellsT, ldT_0, ldT_1, faT_0, faT_1, Nat.reduceAdd, c0, zds, i_neqV, w1, w2, unA_not', Bool.not_false]
    exact finish_i _ _ _ _ _ _ _ (by first | (simp only [zfp, ↓reduceIte, Nat.reduceEqDiff]; done) | (simp only [zfp, ↓reduceIte, Nat.reduceEqDiff]; rfl)) rfl
  | true =>
    rw [intZ_yesW h3] at c0
    by_cases h4 : z < 1
    · rw [hw2 (fun h => by have := h.2.2.2.1; omega)]
      simp only [simB, zbo, Nat.reduceBEq, own0, ↓reduceIte, Nat.reduceEqDiff, Nat.reduceAdd, env0, List.getElem?_cons_zero, List.getElem?_cons_succ, zdv, zdw, zdx, zdy, zdz, zea, zeb, zec, ia22, ld31, zed, zee, zef, zeg, zeh, zei, zej, zek, zel, zem, zen, zeo, zep, zeq, zer, fa_0, fa_1, zes, bd_0, bd_2, zet, fd_1, zeu, Nat.zero_add, encT, cellsT, ldT_0, ldT_1, faT_0, faT_1, Nat.reduceAdd, c0, zds, i_neqV, w1, w2, unA_not', Bool.not_true, h4]
      exact finish_i _ _ _ _ _ _ _ (by first | (simp only [zfp, ↓reduceIte, Nat.reduceEqDiff]; done) | (simp only [zfp, ↓reduceIte, Nat.reduceEqDiff]; rfl)) rfl
    by_cases h5 : z > (ks'.length : Int)
    · rw [hw2 (fun h => by have := h.2.2.2.2; omega)]
      simp only [simB, zbo, Nat.reduceBEq, own0, ↓reduceIte, Nat.reduceEqDiff, Nat.reduceAdd, env0, List.getElem?_cons_zero, List.getElem?_cons_succ, zdv, zdw, zdx, zdy, zdz, zea, zeb, zec, ia22, ld31, zed, zee, zef, zeg, zeh, zei, zej, zek, zel, zem, zen, zeo, zep, zeq, zer, fa_0, fa_1, zes, bd_0, bd_2, zet, fd_1, zeu, Nat.zero_add, encT, cellsT, ldT_0, ldT_1, ldT_4, faT_0, faT_1, faT_4, Nat.reduceAdd, c0, zds, i_neqV, w1, w2, unA_not', Bool.not_true, h4, lenTk, h5]
      exact finish_i _ _ _ _ _ _ _ (by first | (simp only [zfp, ↓reduceIte, Nat.reduceEqDiff]; done) | (simp only [zfp, ↓reduceIte, Nat.reduceEqDiff]; rfl)) rfl
    have hz := isI64_W h3
    have f5 := i_sub Tryz.prog 3 z 1 (by omega) (by have := hz.2; omega)
    rw [hw1 ⟨h1, h2, h3, by omega, by omega⟩]
    simp only [simB, zbo, Nat.reduceBEq, own0, ↓reduceIte, Nat.reduceEqDiff, Nat.reduceAdd, env0, List.getElem?_cons_zero, List.getElem?_cons_succ, zdv, zdw, zdx, zdy, zdz, zea, zeb, zec, ia22, ld31, zed, zee, zef, zeg, zeh, zei, zej, zek, zel, zem, zen, zeo, zep, zeq, zer, fa_0, fa_1, zes, bd_0, bd_2, zet, fd_1, zeu, Nat.zero_add, encT, cellsT, ldT_0, ldT_1, ldT_4, faT_0, faT_1, faT_4, Nat.reduceAdd, c0, zds, i_neqV, w1, w2, unA_not', Bool.not_true, h4, lenTk, h5, f5]
    exact finish_i _ _ _ _ _ _ _ (by first | (simp only [zfp, ↓reduceIte, Nat.reduceEqDiff]; done) | (simp only [zfp, ↓reduceIte, Nat.reduceEqDiff]; rfl)) rfl
instance (a b : T) : Decidable (PlaceP a b) := by unfold PlaceP; infer_instance
def twoT (op : Int) (a b : T) : T × Bool := if op = 1 ∧ PlaceP a b then ((kidsT b).getD ((zOfT a).toNat - 1) T0, true) else (T0, false)
theorem two_yes (op : Int) (a b : T) (h : op = 1 ∧ PlaceP a b) : twoT op a b = ((kidsT b).getD ((zOfT a).toNat - 1) T0, true) := if_pos h
theorem two_no (op : Int) (a b : T) (h : ¬ (op = 1 ∧ PlaceP a b)) : twoT op a b = (T0, false) := if_neg h
theorem bare_two (op : Int) (a b a' b' : T) (ha : bareT a = bareT a') (hb : bareT b = bareT b') : bareT (twoT op a b).1 = bareT (twoT op a' b').1 ∧ (twoT op a b).2 = (twoT op a' b').2 := by
  have e1 : kindT a = kindT a' ∧ zOfT a = zOfT a' := by
    obtain ⟨k, b, lg, l, s, m, kg, ks⟩ := a
    obtain ⟨k', b', lg', l', s', m', kg', ks'⟩ := a'
    simp only [bareT, T.mk.injEq, true_and] at ha
    obtain ⟨rfl, rfl, rfl, _⟩ := ha
    exact ⟨rfl, rfl⟩
  have e2 : kindT b = kindT b' ∧ bareK (kidsT b) = bareK (kidsT b') := by
    obtain ⟨k, b1, lg, l, s, m, kg, ks⟩ := b
    obtain ⟨k', b1', lg', l', s', m', kg', ks'⟩ := b'
    simp only [bareT, T.mk.injEq, true_and] at hb
    exact ⟨hb.1, hb.2.2.2.2.2⟩
  have hl : (kidsT b).length = (kidsT b').length := by have := congrArg List.length e2.2; rwa [bareK_len, bareK_len] at this
  have hP : PlaceP a b ↔ PlaceP a' b' := by unfold PlaceP; rw [e1.1, e1.2, e2.1, hl]
  by_cases h : op = 1 ∧ PlaceP a b
  · rw [two_yes _ _ _ h, two_yes _ _ _ ⟨h.1, hP.1 h.2⟩, e1.2]
    exact ⟨bare_oneK _ _ _ e2.2, rfl⟩
  · rw [two_no _ _ _ h, two_no _ _ _ (fun h' => h ⟨h'.1, hP.2 h'.2⟩)]
    exact ⟨rfl, rfl⟩
theorem place_drop (a b : T) (h : PlaceP a b) : (zOfT a).toNat - 1 < (kidsT b).length ∧ (((zOfT a).toNat - 1 : Nat) : Int) = zOfT a - 1 ∧ (kidsT b).drop ((zOfT a).toNat - 1) = (kidsT b).getD ((zOfT a).toNat - 1) T0 :: (kidsT b).drop ((zOfT a).toNat - 1 + 1) := by
  obtain ⟨_, _, _, h4, h5⟩ := h
  have hi : (zOfT a).toNat - 1 < (kidsT b).length := by omega
  refine ⟨hi, by omega, ?_⟩
  rw [List.drop_eq_getElem_cons hi, List.getD_eq_getElem?_getD, List.getElem?_eq_getElem hi, Option.getD_some]
set_option maxHeartbeats 16000000 in
theorem twoA_eq (R d : Nat) (hR : 100000 ≤ R) (op : Int) (a b : T) (la : Limbs (limT a)) : evalFn Tryz.prog cfg0 R (d+5) 25 [.tree (.int .i64 op), .tree (encT a), .tree (encT b)] = some (.tree (.tup [encT (twoT op a b).1, .bool (twoT op a b).2]), [[], [], []]) := by
  obtain ⟨w, hw, hpl⟩ := placeA_eq R d hR a b la
  by_cases hP : PlaceP a b
  rotate_left
  · have c1 := fun D st => callA_trees (cfg := cfg0) (d := D) (s := st) (f := 56) (vs := [encT a, encT b]) rfl (hpl false ⟨(fun h => by cases h), fun h => absurd h hP⟩)
    rw [two_no _ _ _ (fun h => hP h.2)]
    rw [evalFn_go _ Tryz.func25 (by unfold Tryz.f25; rfl) (by unfold Tryz.f25; decide) (Nat.le_of_ble_eq_true (by unfold Tryz.f25; rfl)) (by kernel_rfl)]
    simp only [encT] at c1
    simp only [simB, zbo, Nat.reduceBEq, own0, ↓reduceIte, Nat.reduceEqDiff, Nat.reduceAdd, env0, List.getElem?_cons_zero, List.getElem?_cons_succ, zdv, zdw, zdx, zdy, zdz, zea, zeb, zec, ia22, ld31, zed, zee, zef, zeg, zeh, zei, zej, zek, zel, zem, zen, zeo, zep, zeq, zer, fa_0, fa_1, zes, bd_0, bd_2, zet, fd_1, zeu, Nat.zero_add, encT, zeroT, ldT_u, c1, zds, bdT_00, st_Tt, stT_6]
    exact finish_T2 _ _ _ _ _ T0 _ _ _ _ _ (by first | (simp only [zfp, ↓reduceIte, Nat.reduceEqDiff]; done) | (simp only [zfp, ↓reduceIte, Nat.reduceEqDiff]; rfl)) (by first | (simp only [zfp, ↓reduceIte, Nat.reduceEqDiff]; done) | (simp only [zfp, ↓reduceIte, Nat.reduceEqDiff]; rfl)) (by first | (simp only [zfp, ↓reduceIte, Nat.reduceEqDiff]; done) | (simp only [zfp, ↓reduceIte, Nat.reduceEqDiff]; rfl)) rfl
  have c1 := fun D st => callA_trees (cfg := cfg0) (d := D) (s := st) (f := 56) (vs := [encT a, encT b]) rfl (hpl true ⟨fun _ => hP, fun _ => rfl⟩)
  obtain ⟨q1, q2, q3⟩ := place_drop a b hP
  rw [hw hP, ← q2] at c1
  by_cases ho : op = 1
  rotate_left
  · have w1 : (op == 1) = false := beq_eq_false_iff_ne.mpr ho
    rw [two_no _ _ _ (fun h => ho h.1)]
    rw [evalFn_go _ Tryz.func25 (by unfold Tryz.f25; rfl) (by unfold Tryz.f25; decide) (Nat.le_of_ble_eq_true (by unfold Tryz.f25; rfl)) (by kernel_rfl)]
    simp only [encT] at c1
    simp only [simB, zbo, Nat.reduceBEq, own0, ↓reduceIte, Nat.reduceEqDiff, Nat.reduceAdd, env0, List.getElem?_cons_zero, List.getElem?_cons_succ, zdv, zdw, zdx, zdy, zdz, zea, zeb, zec, ia22, ld31, zed, zee, zef, zeg, zeh, zei, zej, zek, zel, zem, zen, zeo, zep, zeq, zer, fa_0, fa_1, zes, bd_0, bd_2, zet, fd_1, zeu, Nat.zero_add, encT, zeroT, ldT_u, c1, zds, i_eqlV, w1, bdT_00, st_Tt, stT_6]
    exact finish_T2 _ _ _ _ _ T0 _ _ _ _ _ (by first | (simp only [zfp, ↓reduceIte, Nat.reduceEqDiff]; done) | (simp only [zfp, ↓reduceIte, Nat.reduceEqDiff]; rfl)) (by first | (simp only [zfp, ↓reduceIte, Nat.reduceEqDiff]; done) | (simp only [zfp, ↓reduceIte, Nat.reduceEqDiff]; rfl)) (by first | (simp only [zfp, ↓reduceIte, Nat.reduceEqDiff]; done) | (simp only [zfp, ↓reduceIte, Nat.reduceEqDiff]; rfl)) rfl
  subst ho
  rw [two_yes _ _ _ ⟨rfl, hP⟩]
  obtain ⟨x, hx⟩ : ∃ x, (kidsT b).getD ((zOfT a).toNat - 1) T0 = x := ⟨_, rfl⟩
  obtain ⟨i, hi⟩ : ∃ i, (zOfT a).toNat - 1 = i := ⟨_, rfl⟩
  rw [hx, hi] at q3
  rw [hi] at q1 c1
  rw [hx]
  clear hx hi q2 hpl hw hP
  obtain ⟨k', b2, lg', l', s', m', kg', ks'⟩ := b
  simp only [kidsT] at q1 q3
  have i0 := fun st => ia_K st ks' (gr kg') i q1
  rw [q3] at i0
  have l0 := fun st => ld_KW st x (ks'.drop (i + 1))
  rw [evalFn_go _ Tryz.func25 (by unfold Tryz.f25; rfl) (by unfold Tryz.f25; decide) (Nat.le_of_ble_eq_true (by unfold Tryz.f25; rfl)) (by kernel_rfl)]
  simp only [encT] at c1
  have lt := fun t k => ldT_4W t k k' b2 lg' l' s' m' kg' ks'
  simp only [simB, zbo, Nat.reduceBEq, own0, ↓reduceIte, Nat.reduceEqDiff, Nat.reduceAdd, env0, List.getElem?_cons_zero, List.getElem?_cons_succ, zdv, zdw, zdx, zdy, zdz, zea, zeb, zec, ia22, ld31, zed, zee, zef, zeg, zeh, zei, zej, zek, zel, zem, zen, zeo, zep, zeq, zer, fa_0, fa_1, zes, bd_0, bd_2, zet, fd_1, zeu, Nat.zero_add, encT, zeroT, ldT_u, c1, zds, i_eqlV, Int.reduceBEq, faT_4, Nat.reduceAdd, lt, i0, l0, st_Tt, stT_6]
  exact finish_T2 _ _ _ _ _ x _ _ _ _ _ (by first | (simp only [zfp, ↓reduceIte, Nat.reduceEqDiff]; done) | (simp only [zfp, ↓reduceIte, Nat.reduceEqDiff]; rfl)) (by first | (simp only [zfp, ↓reduceIte, Nat.reduceEqDiff]; done) | (simp only [zfp, ↓reduceIte, Nat.reduceEqDiff]; rfl)) (by first | (simp only [zfp, ↓reduceIte, Nat.reduceEqDiff]; done) | (simp only [zfp, ↓reduceIte, Nat.reduceEqDiff]; rfl)) rfl
set_option maxHeartbeats 16000000 in
theorem rtwoA_eq (R d : Nat) (hR : 100000 ≤ R) (op : Int) (a b : T) (la : Limbs (limT a)) : evalFn Tryz.prog cfg0 R (d+5) 26 [.tree (.int .i64 op), .tree (encT a), .tree (encT b)] = some (.tree (.tup [encT (twoT op a b).1, .bool (twoT op a b).2]), [[], [], []]) := by
  by_cases hP : PlaceP a b
  rotate_left
  · have c1 := fun D st => callA_trees (cfg := cfg0) (d := D) (s := st) (f := 57) (vs := [encT a, encT b]) rfl (rplaceA_eq R d hR a b la (-1) (fun h => absurd h hP) (fun _ => rfl))
    rw [two_no _ _ _ (fun h => hP h.2)]
    have w2 : ((-1 : Int) < 0) := by decide
    rw [evalFn_go _ Tryz.func26 (by unfold Tryz.f26; rfl) (by unfold Tryz.f26; decide) (Nat.le_of_ble_eq_true (by unfold Tryz.f26; rfl)) (by kernel_rfl)]
    simp only [encT] at c1
    by_cases ho : op = 1
    · have w1 : (op != 1) = false := by rw [ho]; rfl
      simp only [simB, zbo, Nat.reduceBEq, own0, ↓reduceIte, Nat.reduceEqDiff, Nat.reduceAdd, env0, List.getElem?_cons_zero, List.getElem?_cons_succ, zdv, zdw, zdx, zdy, zdz, zea, zeb, zec, ia22, ld31, zed, zee, zef, zeg, zeh, zei, zej, zek, zel, zem, zen, zeo, zep, zeq, zer, fa_0, fa_1, zes, bd_0, bd_2, zet, fd_1, zeu, Nat.zero_add, encT, zeroT, ldT_u, c1, i_neqV, w1, w2, bdT_00, st_Tt, stT_6]
      exact finish_T2 _ _ _ _ _ T0 _ _ _ _ _ (by first | (simp only [zfp, ↓reduceIte, Nat.reduceEqDiff]; done) | (simp only [zfp, ↓reduceIte, Nat.reduceEqDiff]; rfl)) (by first | (simp only [zfp, ↓reduceIte, Nat.reduceEqDiff]; done) | (simp only [zfp, ↓reduceIte, Nat.reduceEqDiff]; rfl)) (by first | (simp only [zfp, ↓reduceIte, Nat.reduceEqDiff]; done) | (simp only [zfp, ↓reduceIte, Nat.reduceEqDiff]; rfl)) rfl
    · have w1 : (op != 1) = true := bne_iff_ne.mpr ho
      simp only [simB, zbo, Nat.reduceBEq, own0, ↓reduceIte, Nat.reduceEqDiff, Nat.reduceAdd, env0, List.getElem?_cons_zero, List.getElem?_cons_succ, zdv, zdw, zdx, zdy, zdz, zea, zeb, zec, ia22, ld31, zed, zee, zef, zeg, zeh, zei, zej, zek, zel, zem, zen, zeo, zep, zeq, zer, fa_0, fa_1, zes, bd_0, bd_2, zet, fd_1, zeu, Nat.zero_add, encT, zeroT, ldT_u, c1, i_neqV, w1, bdT_00, st_Tt, stT_6]
      exact finish_T2 _ _ _ _ _ T0 _ _ _ _ _ (by first | (simp only [zfp, ↓reduceIte, Nat.reduceEqDiff]; done) | (simp only [zfp, ↓reduceIte, Nat.reduceEqDiff]; rfl)) (by first | (simp only [zfp, ↓reduceIte, Nat.reduceEqDiff]; done) | (simp only [zfp, ↓reduceIte, Nat.reduceEqDiff]; rfl)) (by first | (simp only [zfp, ↓reduceIte, Nat.reduceEqDiff]; done) | (simp only [zfp, ↓reduceIte, Nat.reduceEqDiff]; rfl)) rfl
  have c1 := fun D st => callA_trees (cfg := cfg0) (d := D) (s := st) (f := 57) (vs := [encT a, encT b]) rfl (rplaceA_eq R d hR a b la (zOfT a - 1) (fun _ => rfl) (fun h => absurd hP h))
  obtain ⟨q1, q2, q3⟩ := place_drop a b hP
  rw [← q2] at c1
  by_cases ho : op = 1
  rotate_left
  · have w1 : (op != 1) = true := bne_iff_ne.mpr ho
    rw [two_no _ _ _ (fun h => ho h.1)]
    rw [evalFn_go _ Tryz.func26 (by unfold Tryz.f26; rfl) (by unfold Tryz.f26; decide) (Nat.le_of_ble_eq_true (by unfold Tryz.f26; rfl)) (by kernel_rfl)]
    simp only [encT] at c1
    simp only [simB, zbo, Nat.reduceBEq, own0, ↓reduceIte, Nat.reduceEqDiff, Nat.reduceAdd, env0, List.getElem?_cons_zero, List.getElem?_cons_succ, zdv, zdw, zdx, zdy, zdz, zea, zeb, zec, ia22, ld31, zed, zee, zef, zeg, zeh, zei, zej, zek, zel, zem, zen, zeo, zep, zeq, zer, fa_0, fa_1, zes, bd_0, bd_2, zet, fd_1, zeu, Nat.zero_add, encT, zeroT, ldT_u, c1, i_neqV, w1, bdT_00, st_Tt, stT_6]
    exact finish_T2 _ _ _ _ _ T0 _ _ _ _ _ (by first | (simp only [zfp, ↓reduceIte, Nat.reduceEqDiff]; done) | (simp only [zfp, ↓reduceIte, Nat.reduceEqDiff]; rfl)) (by first | (simp only [zfp, ↓reduceIte, Nat.reduceEqDiff]; done) | (simp only [zfp, ↓reduceIte, Nat.reduceEqDiff]; rfl)) (by first | (simp only [zfp, ↓reduceIte, Nat.reduceEqDiff]; done) | (simp only [zfp, ↓reduceIte, Nat.reduceEqDiff]; rfl)) rfl
  subst ho
  rw [two_yes _ _ _ ⟨rfl, hP⟩]
  obtain ⟨x, hx⟩ : ∃ x, (kidsT b).getD ((zOfT a).toNat - 1) T0 = x := ⟨_, rfl⟩
  obtain ⟨i, hi⟩ : ∃ i, (zOfT a).toNat - 1 = i := ⟨_, rfl⟩
  rw [hx, hi] at q3
  rw [hi] at q1 c1
  rw [hx]
  clear hx hi q2 hP
  obtain ⟨k', b2, lg', l', s', m', kg', ks'⟩ := b
  simp only [kidsT] at q1 q3
  have i0 := fun st => ia_K st ks' (gr kg') i q1
  rw [q3] at i0
  have l0 := fun st => ld_KW st x (ks'.drop (i + 1))
  have w1 : ((1 : Int) != 1) = false := rfl
  have w2 : ¬ ((i : Int) < 0) := by omega
  rw [evalFn_go _ Tryz.func26 (by unfold Tryz.f26; rfl) (by unfold Tryz.f26; decide) (Nat.le_of_ble_eq_true (by unfold Tryz.f26; rfl)) (by kernel_rfl)]
  simp only [encT] at c1
  have lt := fun t k => ldT_4W t k k' b2 lg' l' s' m' kg' ks'
  simp only [simB, zbo, Nat.reduceBEq, own0, ↓reduceIte, Nat.reduceEqDiff, Nat.reduceAdd, env0, List.getElem?_cons_zero, List.getElem?_cons_succ, zdv, zdw, zdx, zdy, zdz, zea, zeb, zec, ia22, ld31, zed, zee, zef, zeg, zeh, zei, zej, zek, zel, zem, zen, zeo, zep, zeq, zer, fa_0, fa_1, zes, bd_0, bd_2, zet, fd_1, zeu, Nat.zero_add, encT, zeroT, ldT_u, c1, i_neqV, w1, w2, faT_4, Nat.reduceAdd, lt, i0, l0, st_Tt, stT_6]
  exact finish_T2 _ _ _ _ _ x _ _ _ _ _ (by first | (simp only [zfp, ↓reduceIte, Nat.reduceEqDiff]; done) | (simp only [zfp, ↓reduceIte, Nat.reduceEqDiff]; rfl)) (by first | (simp only [zfp, ↓reduceIte, Nat.reduceEqDiff]; done) | (simp only [zfp, ↓reduceIte, Nat.reduceEqDiff]; rfl)) (by first | (simp only [zfp, ↓reduceIte, Nat.reduceEqDiff]; done) | (simp only [zfp, ↓reduceIte, Nat.reduceEqDiff]; rfl)) rfl
end Go.Ab
