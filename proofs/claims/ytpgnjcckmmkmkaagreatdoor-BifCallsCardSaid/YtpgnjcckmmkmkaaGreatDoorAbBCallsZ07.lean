/- Several texts put together: AbzD2, AbzD3, AbzJ1, AbzJ2, AbzC1, AbzC2, AbzJ3, AbzJ5, AbzC3, AbzC4, AbzW1, AbzW2, AbzW3, AbzW4, AbzW5, AbzW6, AbzW7, AbzW8. Conditions: as each part says. -/
import Derived.Test.YtpgnjcckmmkmkaaGreatDoorAbBCallsZ06
import Derived.Test.YtpgnjcckmmkmkaaGreatDoorAbBCallsZ05
/- Rows of terms in cells that are written: one taken, one put; turned round step by step. Conditions: places in range. -/
namespace Go.Ab
open Go.Proofs
set_option linter.unusedSimpArgs false

theorem cellsK_chunk (ks : List T) (i : Nat) (h : i < ks.length) : ((cellsK ks).drop (i * 6)).take 6 = cellsT ks[i] := by
  rw [cellsK_drop, List.drop_eq_getElem_cons h]
  simp only [cellsK]
  rw [List.take_append_of_le_length (by rw [cellsT_len]; exact Nat.le_refl _), List.take_of_length_le (by rw [cellsT_len]; exact Nat.le_refl _)]
theorem cellsK_put (ks : List T) (i : Nat) (t : T) (h : i < ks.length) : splice (cellsK ks) (i * 6) (cellsT t) = cellsK (ks.set i t) := by
  rw [List.set_eq_take_append_cons_drop, if_pos h, cellsK_append]
  simp only [splice, cellsK, cellsT_len, cellsK_take]
  rw [show i * 6 + 6 = (i + 1) * 6 by omega, cellsK_drop]
  simp
def RevN (ks : List T) (i : Nat) (xs : List T) : Prop := xs.length = ks.length ∧ ∀ j, j < ks.length → xs[j]? = if j < i ∨ ks.length ≤ j + i then ks[ks.length - 1 - j]? else ks[j]?
theorem rev_0 (ks : List T) : RevN ks 0 ks := ⟨rfl, fun j hj => by rw [if_neg (by omega)]⟩
theorem rev_step {ks xs : List T} {i : Nat} (h : RevN ks i xs) (hi : i + 1 + i < ks.length) :
    ∃ a b, xs[i]? = some a ∧ xs[ks.length - 1 - i]? = some b ∧ RevN ks (i + 1) ((xs.set i b).set (ks.length - 1 - i) a) := by
  obtain ⟨hl, hx⟩ := h
  have e1 := hx i (by omega)
  have e2 := hx (ks.length - 1 - i) (by omega)
  rw [if_neg (by omega)] at e1 e2
  have g1 : ks[i]? = some ks[i] := List.getElem?_eq_getElem (by omega)
  have g2 : ks[ks.length - 1 - i]? = some ks[ks.length - 1 - i] := List.getElem?_eq_getElem (by omega)
  refine ⟨ks[i], ks[ks.length - 1 - i], by rw [e1, g1], by rw [e2, g2], by simp [hl], fun j hj => ?_⟩
  by_cases h1 : j = i
  · subst h1
    rw [List.getElem?_set_ne (by omega), List.getElem?_set_self (by omega), if_pos (by omega), g2]
  by_cases h2 : j = ks.length - 1 - i
  · subst h2
    rw [List.getElem?_set_self (by simp; omega), if_pos (by omega), show ks.length - 1 - (ks.length - 1 - i) = i by omega, g1]
  rw [List.getElem?_set_ne (by omega), List.getElem?_set_ne (by omega), hx j hj]
  by_cases h3 : j < i ∨ ks.length ≤ j + i
  · rw [if_pos h3, if_pos (by omega)]
  · rw [if_neg h3, if_neg (by omega)]
theorem rev_end {ks xs : List T} {i : Nat} (h : RevN ks i xs) (hi : ks.length ≤ i + 1 + i) : xs = ks.reverse := by
  obtain ⟨hl, hx⟩ := h
  apply List.ext_getElem?
  intro j
  by_cases hj : j < ks.length
  · rw [hx j hj, List.getElem?_reverse hj]
    by_cases h3 : j < i ∨ ks.length ≤ j + i
    · rw [if_pos h3]
    · rw [if_neg h3, show ks.length - 1 - j = j by omega]
  · rw [List.getElem?_eq_none (by omega), List.getElem?_eq_none (by simp; omega)]
end Go.Ab

/- slices.Reverse of a row that is written (CFG1). Conditions: lengths in range. -/
namespace Go.Ab
open Go.Proofs
set_option maxRecDepth 100000
set_option linter.unusedSimpArgs false

theorem lenO (s : St) (p k off len e : Nat) : lenA Tryz.prog 22 s (.own p k off len e) = if (cellsE (s p) k).isSome = true then some (.int .i64 (len : Int)) else none := by
  simp only [lenA, tkTk, live, cellsAt_E]
theorem iaO (s : St) (p k len : Nat) (kd : IntKind) (i : Int) : indexAddrA Tryz.prog 22 s (.own p k 0 len 6) (.int kd i) = if (cellsE (s p) k).isSome = true ∧ 0 ≤ i ∧ i < len then some (.ptr p k (i.toNat * 6)) else none := by
  simp only [indexAddrA, tkTk, eszT, Option.bind_some, live, cellsAt_E, Nat.zero_add]
theorem ldOK (t k i : Nat) (xs : List T) (x : T) (h : xs[i]? = some x) : ldE Tryz.prog 29 ⟨t, .buf (cellsK xs)⟩ k (i * 6) = if t = k then some (.agg (cellsT x)) else none := by
  obtain ⟨hi, hx⟩ := List.getElem?_eq_some_iff.mp h
  have hc := cellsK_chunk xs i hi
  rw [hx] at hc
  rw [ldE_buf, cellsE_buf]
  by_cases e : t = k
  · rw [if_pos e, if_pos e]
    simp only [Option.bind_some, partA, shT]
    rw [if_pos (by rw [cellsK_len]; omega), hc]
  · rw [if_neg e, if_neg e]; rfl
def stOE (e : Ent) (p k i : Nat) (s : St) (u : T) : Option St :=
  match e with | ⟨t, .buf ys⟩ => if t = k then (if i * 6 + 6 ≤ ys.length then some (upd s p ⟨t, .buf (splice ys (i * 6) (cellsT u))⟩) else none) else none | _ => none
theorem stO (s : St) (p k i : Nat) (u : T) : storeA Tryz.prog 29 s (.ptr p k (i * 6)) (.agg (cellsT u)) = stOE (s p) p k i s u := by
  have hl := cellsT_len u
  simp only [storeA, settle, Option.bind_some, stOE]
  cases h : s p with
  | mk t c => cases c <;> simp [eszT, hl]
theorem stOE_K (t p k i : Nat) (s : St) (u : T) (xs : List T) : stOE ⟨t, .buf (cellsK xs)⟩ p k i s u = if t = k then (if i < xs.length then some (upd s p ⟨t, .buf (cellsK (xs.set i u))⟩) else none) else none := by
  simp only [stOE, cellsK_len]
  by_cases h : i < xs.length
  · rw [if_pos (show i * 6 + 6 ≤ xs.length * 6 by omega), if_pos h, cellsK_put xs i u h]
  · rw [if_neg (show ¬ i * 6 + 6 ≤ xs.length * 6 by omega), if_neg h]
set_option maxHeartbeats 8000000 in
theorem reverse_eq (n d : Nat) (ks : List T) (hn : ks.length + 2 ≤ n) (hl : ks.length ≤ 1000000) : evalFn Tryz.prog cfg1 n (d+1) 90 [.own (cellsK ks) 0 ks.length 6] = some (.tree (.tup []), [cellsK ks.reverse]) := by
  rw [evalFn_go _ Tryz.func90 (by unfold Tryz.f90; rfl) (by unfold Tryz.f90; decide) (Nat.le_of_ble_eq_true (by unfold Tryz.f90; rfl)) (by kernel_rfl)]
  have s0 : st0 [.own (cellsK ks) 0 ks.length 6] 0 = ⟨0, .buf (cellsK ks)⟩ := rfl
  have e0 : env0 [.own (cellsK ks) 0 ks.length 6] 0 = .own 0 0 0 ks.length 6 := rfl
  have f0 := i_sub Tryz.prog 3 (ks.length : Int) 1 (by omega) (by omega)
  simp only [simB, keep1, Nat.reduceBEq, own1, String.reduceAppend, String.reduceBEq, Bool.or_false, Bool.or_true, Bool.or_self, ↓reduceIte, Nat.reduceEqDiff, Nat.reduceAdd, simL, simN, Nat.zero_add, e0, s0, lenO, cellsE_buf, Option.isSome_some, f0, den_loop]
  refine loop_ends (X := Nat) (fun i env s => env 0 = .own 0 0 0 ks.length 6 ∧ env 2 = .int .i64 (i : Int) ∧ env 3 = .int .i64 ((ks.length : Int) - 1 - i) ∧ (∃ xs, s 0 = ⟨0, .buf (cellsK xs)⟩ ∧ RevN ks i xs) ∧ i ≤ ks.length) (fun i => ks.length - i) (fun _ => (.tree (.tup []), [cellsK ks.reverse])) ?_ n 0 _ _ (by omega) ⟨(by simp only [zfr, ↓reduceIte, Nat.reduceEqDiff, e0]; try rfl), (by simp only [zfr, ↓reduceIte, Nat.reduceEqDiff]; try rfl), by simp only [Int.natCast_zero, Int.sub_zero]; exact (by simp only [zfr, ↓reduceIte, Nat.reduceEqDiff]; try rfl), ⟨ks, (by simp only [zfr, ↓reduceIte, Nat.reduceEqDiff, s0]; try rfl), rev_0 ks⟩, Nat.zero_le _⟩
  clear e0 s0
  rintro rr i hr ih env st ⟨e0, e2, e3, ⟨xs, j0, hx⟩, hi⟩
  by_cases hlt : i + 1 + i < ks.length
  · have q1 : (i : Int) < ((ks.length - 1 - i : Nat) : Int) := by omega
    have e3 : env 3 = .int .i64 ((ks.length - 1 - i : Nat) : Int) := by rw [e3]; congr 1; omega
    obtain ⟨a, b, ga, gb, hs⟩ := rev_step hx hlt
    have la := fun t k => ldOK t k i xs a ga
    have lb := fun t k => ldOK t k (ks.length - 1 - i) xs b gb
    have hxl : xs.length = ks.length := hx.1
    have q2 : (0 : Int) ≤ (i : Int) := by omega
    have q3 : (0 : Int) ≤ ((ks.length - 1 - i : Nat) : Int) := by omega
    have q4 : (i : Int) < (ks.length : Int) := by omega
    have q5 : ((ks.length - 1 - i : Nat) : Int) < (ks.length : Int) := by omega
    have q6 : i < xs.length := by omega
    have q7 : ks.length - 1 - i < (xs.set i b).length := by rw [List.length_set]; omega
    have f5 := i_add Tryz.prog 3 (i : Int) 1 (by omega) (by omega)
    have f6 := i_sub Tryz.prog 3 ((ks.length - 1 - i : Nat) : Int) 1 (by omega) (by omega)
    simp only [simB, keep1, Nat.reduceBEq, own1, String.reduceAppend, String.reduceBEq, Bool.or_false, Bool.or_true, Bool.or_self, ↓reduceIte, Nat.reduceEqDiff, Nat.reduceAdd, simL, simN, Nat.zero_add, e0, e2, e3, j0, q1, iaO, cellsE_buf, Option.isSome_some, q2, q3, q4, q5, and_self, Int.toNat_natCast, la, lb, stO, stOE_K, q6, q7, f5, f6]
    refine ih (i + 1) _ _ (by omega) rfl ⟨(by simp only [zfr, ↓reduceIte, Nat.reduceEqDiff, e0]; try rfl), (by simp only [zfr, ↓reduceIte, Nat.reduceEqDiff]; try rfl), ?_, ⟨_, (by simp only [zfr, ↓reduceIte, Nat.reduceEqDiff]; try rfl), hs⟩, by omega⟩
    have x1 : ((ks.length : Int) - 1 - ((i + 1 : Nat) : Int)) = ((ks.length - 1 - i : Nat) : Int) - 1 := by omega
    rw [x1]; exact (by simp only [zfr, ↓reduceIte, Nat.reduceEqDiff]; try rfl)
  · have q1 : ¬ (i : Int) < (ks.length : Int) - 1 - (i : Int) := by omega
    have hr := rev_end hx (by omega)
    subst hr
    simp only [simB, keep1, Nat.reduceBEq, own1, String.reduceAppend, String.reduceBEq, Bool.or_false, Bool.or_true, Bool.or_self, ↓reduceIte, Nat.reduceEqDiff, Nat.reduceAdd, simL, simN, Nat.zero_add, e0, e2, e3, q1]
    simp [finishP, finish, settleL, outsA, j0]
end Go.Ab

/- The terms of a list, that stay writable (CFG1): term.Items. Conditions: lengths in range. -/
namespace Go.Ab
open Go.Proofs
set_option maxRecDepth 100000
set_option linter.unusedSimpArgs false

theorem opA_bs1c (call : FuncId → List Arg → Option Out) (q : Bool) (d : Option Tmp) (ty : TypeId) (pos : String) (af : Array Edge) (g : Option (Nat × Bool)) (t : Nat) (env : Env) (s : St) (x : Operand) (e : T) (hx : ev env x = .agg (cellsT e)) :
    opA Tryz.prog cfg1 call q ⟨d, .buildSlice 22 1 #[(0, x)], ty, pos, af, g⟩ t env s = some (.sl (cellsT e) 1 .tight, s) := by
  simp only [opA, tkTk, eszT, zeroT, Option.bind_some, List.map_cons, List.map_nil, hx]
  rw [if_pos ⟨by rfl, by decide⟩]
  show Option.map _ (Option.map _ (fillA (fun i => some (i * 6, 6)) (rep 1 zeroT6) [(0, .agg (cellsT e))])) = _
  have := bs1T e
  rw [this]; rfl
theorem roomJ (n : Nat) (h : n ≤ 1000001) : n * byOf Tryz.prog 29 ≤ 140737488355328 ∧ n ≤ 9223372036854775807 := by
  have hb := of_decide_eq_true by28
  have : n * byOf Tryz.prog 29 ≤ 1000001 * 200 := Nat.mul_le_mul h hb
  omega
def ApO (s : St) (d : Nat) (x : AV) (us : List T) : Prop := (us = [] ∧ x = .sl [] 0 .nil) ∨ (us ≠ [] ∧ ∃ t, x = .own d t 0 us.length 6 ∧ s d = ⟨t, .buf (cellsK us)⟩)
theorem ApO.push {s : St} {d : Nat} {x : AV} {us : List T} (h : ApO s d x us) (hl : us.length ≤ 1000000) (v : T) :
    ∃ x' s', appendO Tryz.prog #[22, 22] d s x (.sl (cellsT v) 1 .tight) = some (x', s') ∧ ApO s' d x' (us ++ [v]) ∧ ∀ q, q ≠ d → s' q = s q := by
  have hm : moreA Tryz.prog 29 6 (some 22) s (.sl (cellsT v) 1 .tight) = some (cellsT v, 1) := by
    simp only [moreA, Option.map_some, tkTk, cellsT_len, Nat.one_mul, ↓reduceIte]
  have hk : cellsK (us ++ [v]) = cellsK us ++ cellsT v := by rw [cellsK_append]; simp only [cellsK, List.append_nil]
  have h1 : (us.length + 1) * byOf Tryz.prog 29 ≤ 140737488355328 ∧ us.length + 1 ≤ 9223372036854775807 := roomJ (us.length + 1) (by omega)
  rcases h with ⟨rfl, rfl⟩ | ⟨hu, t, rfl, hs⟩
  · refine ⟨.own d ((s d).t + 1) 0 1 6, upd s d ⟨(s d).t + 1, .buf (cellsT v)⟩, ?_, .inr ⟨by simp, (s d).t + 1, rfl, by rw [upd_same]; simp [cellsK]⟩, fun q hq => upd_ne _ _ hq⟩
    have h2 : 1 * byOf Tryz.prog 29 ≤ 140737488355328 := by simpa using h1.1
    simp only [appendO, List.getElem?_toArray, List.getElem?_cons_zero, List.getElem?_cons_succ, Option.map_some, tkTk, eszT, Option.bind_some, hm, zl28, ↓reduceIte, Nat.le_refl, true_and, true_or]
    rw [if_pos ⟨h2, by decide⟩]
  · refine ⟨.own d ((s d).t + 1) 0 (us.length + 1) 6, upd (upd s d ⟨t, .dead⟩) d ⟨(s d).t + 1, .buf (cellsK us ++ cellsT v)⟩, ?_, .inr ⟨by simp, (s d).t + 1, by simp, by rw [upd_same, hk]⟩, fun q hq => by rw [upd_ne _ _ hq, upd_ne _ _ hq]⟩
    simp only [appendO, List.getElem?_toArray, List.getElem?_cons_zero, List.getElem?_cons_succ, Option.map_some, tkTk, eszT, Option.bind_some, hm, zl28, ↓reduceIte, hs, cellsK_len, true_and]
    rw [if_pos h1]

theorem itT_k3 (r : Nat) (k : Int) (b : Bool) (lg : Gk) (l : List Nat) (s : List UInt8) (n : Int) (kg : Gk) (ks acc : List T) (h : k = 3) : itT (r + 1) (.mk k b lg l s n kg ks) acc = some acc := by rw [itT_mk, if_pos h]
theorem itT_no (r : Nat) (k : Int) (b : Bool) (lg : Gk) (l : List Nat) (s : List UInt8) (n : Int) (kg : Gk) (ks acc : List T) (h : k ≠ 3) (h4 : k ≠ 4) : itT (r + 1) (.mk k b lg l s n kg ks) acc = none := by rw [itT_mk, if_neg h, if_neg h4]
theorem itT_n2 (r : Nat) (k : Int) (b : Bool) (lg : Gk) (l : List Nat) (s : List UInt8) (n : Int) (kg : Gk) (ks acc : List T) (h : k ≠ 3) (h4 : k = 4) (h2 : ks.length ≠ 2) : itT (r + 1) (.mk k b lg l s n kg ks) acc = none := by
  rw [itT_mk, if_neg h, if_pos h4]
  match ks, h2 with
  | [], _ => rfl
  | [_], _ => rfl
  | [_, _], h => exact absurd rfl h
  | _ :: _ :: _ :: _, _ => rfl
theorem itT_2 (r : Nat) (k : Int) (b : Bool) (lg : Gk) (l : List Nat) (s : List UInt8) (n : Int) (kg : Gk) (x u : T) (acc : List T) (h : k ≠ 3) (h4 : k = 4) : itT (r + 1) (.mk k b lg l s n kg [x, u]) acc = itT r u (acc ++ [x]) := by
  rw [itT_mk, if_neg h, if_pos h4]
def itemsR : Option (List T) → Res
  | some [] => .tree (.tup [.sl [] 0 .nil, .bool true])
  | some (t :: us) => .owns (cellsK (t :: us)) (us.length + 1) 6 [.bool true]
  | none => .tree (.tup [.sl [] 0 .nil, .bool false])
theorem finish_KO (k : Bool) (xs : List Arg) (t t' d : Nat) (x : AV) (us : List T) (env : Env) (s : St) (os : List (List AV)) (hv : env t = x) (hA : ApO s d x us) (hd : xs.length ≤ d) (hb : env t' = .bool true) (ho : outsA s 0 xs = some os) :
    finishO Tryz.prog k xs #[.tmp t, .tmp t'] env s = some (itemsR (some us), os) := by
  rcases hA with ⟨rfl, rfl⟩ | ⟨hu, tt, rfl, hs⟩
  · rw [finishO_else _ _ _ _ _ _ _ _ _ hv, finishP_t2]
    simp [finish, hv, hb, settleL, settle, ho, itemsR]
  · rw [finishO_own _ _ _ _ _ _ _ _ _ _ _ _ _ hv hs hd (by rw [cellsK_len]; omega) hb ho]
    cases us with
    | nil => exact absurd rfl hu
    | cons u us => rfl
theorem finish_KO0 (k : Bool) (xs : List Arg) (t t' : Nat) (env : Env) (s : St) (os : List (List AV)) (hv : env t = .sl [] 0 .nil) (hb : env t' = .bool false) (ho : outsA s 0 xs = some os) :
    finishO Tryz.prog k xs #[.tmp t, .tmp t'] env s = some (itemsR none, os) := by
  rw [finishO_else _ _ _ _ _ _ _ _ _ hv, finishP_t2]
  simp [finish, hv, hb, settleL, settle, ho, itemsR]
set_option maxHeartbeats 8000000 in
theorem items1_eq (R : Nat) (hR : 2010 ≤ R) (d : Nat) (t0 : T) : evalFn Tryz.prog cfg1 R (d+1) 53 [.tree (encT t0)] = some (itemsR (itemsT t0), [[]]) := by
  rw [evalFn_goO _ Tryz.func53 (by unfold Tryz.f53; rfl) (by unfold Tryz.f53; decide) (Nat.le_of_ble_eq_true (by unfold Tryz.f53; rfl)) (by kernel_rfl)]
  simp only [simB, keep1, Nat.reduceBEq, own1, String.reduceAppend, String.reduceBEq, Bool.or_false, Bool.or_true, Bool.or_self, ↓reduceIte, Nat.reduceEqDiff, Nat.reduceAdd, simA, simN, Nat.zero_add, encT, den_loop]
  refine loop_ends (X := T × List T) (fun x env s => env 1 = .ptr 1 1 0 ∧ s 1 = ⟨1, .buf (cellsT x.1)⟩ ∧ ApO s 29 (env 4) x.2 ∧ x.2.length ≤ 2001 ∧ itT (2001 - x.2.length) x.1 x.2 = itemsT t0) (fun x => 2001 - x.2.length) (fun _ => (itemsR (itemsT t0), [[]])) ?_ R (t0, []) _ _ (by simp only [List.length_nil]; omega) ⟨(by simp only [zfr, ↓reduceIte, Nat.reduceEqDiff]; try rfl), (by simp only [zfr, ↓reduceIte, Nat.reduceEqDiff]; try rfl), .inl ⟨rfl, (by simp only [zfr, ↓reduceIte, Nat.reduceEqDiff]; try rfl)⟩, by simp, rfl⟩
  rintro rd ⟨t, acc⟩ hrd ih env st ⟨e1, j1, ap, hl, hit⟩
  simp only at j1 ap hl hit hrd
  rw [← hit]
  generalize h4 : env 4 = x4 at ap
  have la : lenA Tryz.prog 22 st x4 = some (.int .i64 (acc.length : Int)) := by
    rcases ap with ⟨rfl, rfl⟩ | ⟨_, tt, rfl, hs⟩
    · exact lenTk st [] 0 .nil
    · rw [lenO, hs, cellsE_buf, if_pos rfl]; rfl
  by_cases q1 : (acc.length : Int) ≤ 2000
  rotate_left
  · have h0 : 2001 - acc.length = 0 := by omega
    rw [h0, itT]
    simp only [simB, keep1, Nat.reduceBEq, own1, String.reduceAppend, String.reduceBEq, Bool.or_false, Bool.or_true, Bool.or_self, ↓reduceIte, Nat.reduceEqDiff, Nat.reduceAdd, finKO_ret, simL, simN, Nat.zero_add, e1, h4, la, q1]
    exact finish_KO0 _ _ _ _ _ _ _ (by simp only [zfr, ↓reduceIte, Nat.reduceEqDiff]; try rfl) (by simp only [zfr, ↓reduceIte, Nat.reduceEqDiff]; try rfl) rfl
  obtain ⟨r, hr⟩ : ∃ r, 2001 - acc.length = r + 1 := ⟨2000 - acc.length, by omega⟩
  rw [hr] at hit ⊢
  obtain ⟨k, b, lg, l, s, m, kg, ks⟩ := t
  simp only [cellsT] at j1
  by_cases k3 : k = 3
  · rw [itT_k3 _ _ _ _ _ _ _ _ _ _ k3]
    have q3 : (k == 3) = true := by rw [k3]; rfl
    simp only [simB, keep1, Nat.reduceBEq, own1, String.reduceAppend, String.reduceBEq, Bool.or_false, Bool.or_true, Bool.or_self, ↓reduceIte, Nat.reduceEqDiff, Nat.reduceAdd, finKO_ret, simL, simN, Nat.zero_add, e1, j1, h4, la, q1, faT_0, ldT_0, i_eqlV, q3]
    exact finish_KO _ _ _ _ 29 x4 acc _ _ _ (by simp only [zfr, ↓reduceIte, Nat.reduceEqDiff]; try rfl) ap (by simp) (by simp only [zfr, ↓reduceIte, Nat.reduceEqDiff]; try rfl) rfl
  have q3 : (k == 3) = false := beq_eq_false_iff_ne.mpr k3
  by_cases k4 : k = 4
  rotate_left
  · rw [itT_no _ _ _ _ _ _ _ _ _ _ k3 k4]
    have q4 : (k != 4) = true := bne_iff_ne.mpr k4
    simp only [simB, keep1, Nat.reduceBEq, own1, String.reduceAppend, String.reduceBEq, Bool.or_false, Bool.or_true, Bool.or_self, ↓reduceIte, Nat.reduceEqDiff, Nat.reduceAdd, finKO_ret, simL, simN, Nat.zero_add, e1, j1, h4, la, q1, faT_0, ldT_0, i_eqlV, i_neqV, q3, q4]
    exact finish_KO0 _ _ _ _ _ _ _ (by simp only [zfr, ↓reduceIte, Nat.reduceEqDiff]; try rfl) (by simp only [zfr, ↓reduceIte, Nat.reduceEqDiff]; try rfl) rfl
  have q4 : (k != 4) = false := by rw [k4]; rfl
  by_cases k2 : ks.length = 2
  rotate_left
  · rw [itT_n2 _ _ _ _ _ _ _ _ _ _ k3 k4 k2]
    have q5 : ((ks.length : Int) != 2) = true := bne_iff_ne.mpr (by omega)
    simp only [simB, keep1, Nat.reduceBEq, own1, String.reduceAppend, String.reduceBEq, Bool.or_false, Bool.or_true, Bool.or_self, ↓reduceIte, Nat.reduceEqDiff, Nat.reduceAdd, finKO_ret, simL, simN, Nat.zero_add, e1, j1, h4, la, q1, faT_0, ldT_0, faT_4, ldT_4, lenTk, i_eqlV, i_neqV, q3, q4, q5]
    exact finish_KO0 _ _ _ _ _ _ _ (by simp only [zfr, ↓reduceIte, Nat.reduceEqDiff]; try rfl) (by simp only [zfr, ↓reduceIte, Nat.reduceEqDiff]; try rfl) rfl
  obtain ⟨h, u, rfl⟩ : ∃ h u, ks = [h, u] := by
    match ks, k2 with
    | [h, u], _ => exact ⟨h, u, rfl⟩
  rw [itT_2 _ _ _ _ _ _ _ _ _ _ _ k3 k4] at hit ⊢
  simp only [List.length_cons, List.length_nil, Nat.zero_add, Nat.reduceAdd] at j1
  have q5 : (((2 : Nat) : Int) != 2) = false := rfl
  obtain ⟨x', s', a1, a2, a3⟩ := ap.push (by omega) h
  have i0 : ∀ st, indexAddrA Tryz.prog 22 st (.sl (cellsK [h, u]) 2 (gr kg)) (.int .i64 0) = some (.rptr (cellsK [h, u])) := fun st => ia_K st [h, u] (gr kg) 0 (by simp)
  have i1 : ∀ st, indexAddrA Tryz.prog 22 st (.sl (cellsK [h, u]) 2 (gr kg)) (.int .i64 1) = some (.rptr (cellsK [u])) := fun st => ia_K st [h, u] (gr kg) 1 (by simp)
  have l0 := fun st => ld_K st h [u]
  have l1 := fun st => ld_K st u []
  simp only [encT] at l0 l1
  have bs := fun (q : Bool) (d' : Option Tmp) (ty : TypeId) (pos : String) (af : Array Edge) (g : Option (Nat × Bool)) (t : Nat) (env : Env) (s : St) (x : Operand) (hx : ev env x = .agg (cellsT h)) => opA_bs1c (evalFn Tryz.prog cfg1 R d) q d' ty pos af g t env s x _ hx
  have j1' : s' 1 = ⟨1, .buf [.int .i64 k, .bool b, encL lg l, .str s, .int .i64 m, .sl (cellsK [h, u]) 2 (gr kg)]⟩ := by rw [a3 1 (by decide)]; exact j1
  have p1 : (("term.go:236" : String) == "term.go:236" || ("term.go:236" : String) == "relict/term.Items") = true := by decide
  simp only [simB, keep1, Nat.reduceBEq, own1, String.reduceAppend, String.reduceBEq, Bool.or_false, Bool.or_true, Bool.or_self, ↓reduceIte, Nat.reduceEqDiff, Nat.reduceAdd, simL, simN, Nat.zero_add, e1, j1, h4, la, q1, faT_0, ldT_0, faT_4, ldT_4, lenTk, i_eqlV, i_neqV, q3, q4, q5, i0, l0]
  rw [bs _ _ _ _ _ _ _ _ _ _ (by simp only [zfr, ↓reduceIte, Nat.reduceEqDiff, zfm]; try rfl)]
  simp only [simB, keep1, Nat.reduceBEq, own1, String.reduceAppend, String.reduceBEq, Bool.or_false, Bool.or_true, Bool.or_self, ↓reduceIte, Nat.reduceEqDiff, Nat.reduceAdd, simL, simN, Nat.zero_add, p1, a1, e1, j1', h4, faT_4, ldT_4, i1, l1, st_Tt, stT_6]
  have ha := a2
  rw [hit]
  refine ih (u, acc ++ [h]) _ _ (by simp; omega) rfl ?_
  refine ⟨(by simp only [zfr, ↓reduceIte, Nat.reduceEqDiff, e1]; try rfl), (by simp only [zfr, ↓reduceIte, Nat.reduceEqDiff]; try rfl), ?_, by simp; omega, ?_⟩
  · rcases ha with ⟨g1, _⟩ | ⟨g1, tt, g2, g3⟩
    · exact absurd g1 (by simp)
    · exact .inr ⟨g1, tt, g2, by rw [upd_ne _ _ (by decide)]; exact g3⟩
  · simp only [List.length_append, List.length_cons, List.length_nil]
    rw [show 2001 - (acc.length + (0 + 1)) = r by omega]
    exact hit
end Go.Ab

/- bif.one of reverse, run with a list's terms writable (CFG1). Condition: a proper list, its length in range. -/
namespace Go.Ab
open Go.Proofs
set_option maxRecDepth 100000
set_option linter.unusedSimpArgs false

section
variable {cfg : Cfg} {call : FuncId → List Arg → Option Out}
theorem callA_owns {d : Nat} {s : St} {f : FuncId} {v : AV} {xs : List AV} {len e : Nat} {rest : List AV} (ht : isTree v = true) (hc : call f [.tree v] = some (.owns xs len e rest, [[]])) : callA cfg call d s f [v] = some (.tupo d ((s d).t + 1) 0 len e rest, upd s d ⟨(s d).t + 1, .buf xs⟩) := by
  have h1 : argsA cfg f s 0 [v] = some [.tree v] := argsA_trees f s [v] 0 (by simpa using ht)
  have h2 : givesL [v] [Arg.tree v] = [] := givesL_trees [v]
  have h3 : lendsL [v] [Arg.tree v] = [] := lendsL_trees [v] (by simpa using ht)
  have h4 : backA s [v] [Arg.tree v] [[]] = some s := backA_trees s [v]
  simp only [callA, h1, Option.bind_some, h2, h3, List.nodup_nil, List.not_mem_nil, false_implies, implies_true, and_self, if_true, hc, List.foldl_nil, ite_self, h4, resA]
theorem callA_rev {d : Nat} {s : St} {f : FuncId} {p t len e : Nat} {xs ys : List AV} (hlin : cfg.lin f 0 = true) (hs : s p = ⟨t, .buf xs⟩) (hl : 0 + len * e ≤ xs.length) (hc : call f [.own xs 0 len e] = some (.tree (.tup []), [ys])) : callA cfg call d s f [.own p t 0 len e] = some (.tup [], upd s p ⟨t, .buf ys⟩) := by
  simp only [callA, argsA, argA, cellsAt, hs, if_true, Option.bind_some, hl, hlin, Option.map_some, givesL, givesOf, lendsL, lendsOf, hc, backA, resA]
  rw [if_pos (by simp)]
  simp [hs]
theorem callA_lent {d : Nat} {s : St} {f : FuncId} {p t len e : Nat} {xs : List AV} {v r : AV} (hlin : cfg.lin f 0 = false) (hs : s p = ⟨t, .buf xs⟩) (hl : len * e = xs.length) (hv : isTree v = true) (hr : flat r = false) (hr2 : ∀ vs, r ≠ .tup vs) (hc : call f [.tree (.sl xs len .loose), .tree v] = some (.tree r, [[], []])) : callA cfg call d s f [.own p t 0 len e, v] = some (r, upd s p ⟨t, .frz xs⟩) := by
  have h1 : argsA cfg f s 1 [v] = some [.tree v] := argsA_trees f s [v] 1 (by simpa using hv)
  have h2 : givesOf v (.tree v) = none := by cases v <;> first | rfl | (rename_i g; cases g <;> rfl)
  have h3 : lendsOf v (.tree v) = none := by cases v <;> first | rfl | cases hv
  have hf : flatR (.tree r) = false := by
    cases r <;> first | exact hr | exact absurd rfl (hr2 _)
  have h4 : givesOf (.own p t 0 len e) (.tree (.sl xs len .loose)) = none := rfl
  have h5 : lendsOf (.own p t 0 len e) (.tree (.sl xs len .loose)) = some p := rfl
  rw [callA, argsA]
  simp only [argA, cellsAt, hs, if_true, Option.bind_some, Nat.zero_add, hl, Nat.le_refl, hlin, Bool.false_eq_true, if_false, List.drop_zero, List.take_length, h1, Option.map_some, givesL, h4, h2, lendsL, h5, h3, hc, hf, Bool.false_and]
  rw [if_pos (by simp)]
  simp [frzAt, hs, backA, h4, h2, resA]
end
theorem tList1_eq (n d : Nat) (ks : List T) (g : Grip) (t : T) (h : ks.length ≤ 9223372036854775807) : evalFn Tryz.prog cfg1 n (d+1) 91 [.tree (.sl (cellsK ks) ks.length g), .tree (encT t)] = some (.tree (encT (listT ks t)), [[], []]) := by
  have hp : primA 91 [.tree (.sl (cellsK ks) ks.length g), .tree (encT t)] = some (.tree (encT (listT ks t)), [[], []]) := by
    unfold primA
    rw [if_neg (by decide), if_pos (by decide)]
    have e := lstN_K ks ks.length t (Nat.le_refl _)
    rw [List.take_length] at e
    simp only [listP, encT]
    rw [if_pos ⟨cellsK_len ks, cellsT_len t, h⟩, e]
  have hc : cfg1.prim = primA := rfl
  rw [evalFn]
  simp only [hc, hp]
theorem empty1_eq (n d : Nat) : evalFn Tryz.prog cfg1 n (d+1) 92 [] = some (.tree (encT nilT'), []) := by
  rw [evalFn_go _ Tryz.func92 (by unfold Tryz.f92; rfl) (by unfold Tryz.f92; decide) (Nat.le_of_ble_eq_true (by unfold Tryz.f92; rfl)) (by kernel_rfl)]
  simp only [simB, keep1, Nat.reduceBEq, own1, String.reduceAppend, String.reduceBEq, Bool.or_false, Bool.or_true, Bool.or_self, ↓reduceIte, Nat.reduceEqDiff, Nat.reduceAdd, simA, simL, simN, Nat.zero_add, zeroT, bdN3, st_Tt, stT_6]
  exact finish_cT _ _ _ _ _ nilT' _ _ _ (by simp only [zfr, ↓reduceIte, Nat.reduceEqDiff]; try rfl) (by simp only [zfr, ↓reduceIte, Nat.reduceEqDiff]; try rfl) rfl
def sRev : List UInt8 := [114, 101, 118, 101, 114, 115, 101]
theorem idxRev1 : evalFn Tryz.prog cfg1 100000 20 61 [.tree (.sl five 5 .tight), .tree (.str sRev)] = some (.tree (.int .i64 (-1)), [[], []]) := by kernel_rfl
theorem rev1_nil : evalFn Tryz.prog cfg1 100000 20 90 [.tree (.sl [] 0 .nil)] = some (.tree (.tup []), [[]]) := by kernel_rfl
theorem opA_five64c (call : FuncId → List Arg → Option Out) (q : Bool) (d : Option Tmp) (ty : TypeId) (pos : String) (af : Array Edge) (g : Option (Nat × Bool)) (t : Nat) (env : Env) (s : St) (x1 x2 x3 x4 x5 : Operand) :
    opA Tryz.prog cfg1 call q ⟨d, .buildSlice 59 5 #[(0, x1), (1, x2), (2, x3), (3, x4), (4, x5)], ty, pos, af, g⟩ t env s = (five64 (ev env x1) (ev env x2) (ev env x3) (ev env x4) (ev env x5)).map (·, s) := by
  rw [opA_bs]
  simp only [tk64, esz9, zero9, Option.bind_some, List.map_cons, List.map_nil]
  rfl
set_option maxHeartbeats 8000000 in
theorem oneRev1_eq (t : T) (us : List T) (h : itemsT t = some us) (hl : us.length ≤ 2001) : evalFn Tryz.prog cfg1 100000 40 62 [.tree (.str sRev), .tree (encT t)] = some (.tree (.tup [encT (listT us.reverse nilT'), .bool true]), [[], []]) := by
  rw [evalFn_go _ Tryz.func62 (by unfold Tryz.f62; rfl) (by unfold Tryz.f62; decide) (Nat.le_of_ble_eq_true (by unfold Tryz.f62; rfl)) (by kernel_rfl)]
  have w0 : (sRev == ([108, 105, 115, 116, 95, 116, 111, 95, 116, 117, 112, 108, 101] : List UInt8)) = false := by decide
  have w1 : (sRev == ([114, 101, 118, 101, 114, 115, 101] : List UInt8)) = true := by decide
  have ci := fun D st => callA_trees (cfg := cfg1) (d := D) (s := st) (f := 61) (vs := [.sl five 5 .tight, .str sRev]) rfl (evalFn_mono (show 100000 ≤ 100000 by omega) 20 39 (by omega) _ _ _ idxRev1)
  simp only [five] at ci
  have ce := fun D st => callA_trees (cfg := cfg1) (d := D) (s := st) (f := 92) (vs := []) rfl (empty1_eq 100000 38)
  have q1 : ¬ ((-1 : Int) ≥ 0) := by decide
  have hi := items1_eq 100000 (by omega) 38 t
  rw [h] at hi
  have hL := tList1_eq 100000 38 us.reverse .loose nilT' (by rw [List.length_reverse]; omega)
  have hL0 := tList1_eq 100000 38 [] .nil nilT' (by simp)
  obtain ⟨k, n1, lg, l, s1, i1, kg, ks⟩ := t
  cases us with
  | nil =>
    have ct := fun D st => callA_trees (cfg := cfg1) (d := D) (s := st) (f := 53) (vs := [encT (.mk k n1 lg l s1 i1 kg ks)]) rfl hi
    have cr := fun D st => callA_trees (cfg := cfg1) (d := D) (s := st) (f := 90) (vs := [.sl [] 0 .nil]) rfl (evalFn_mono (show 100000 ≤ 100000 by omega) 20 39 (by omega) _ _ _ rev1_nil)
    have cl := fun D st => callA_trees (cfg := cfg1) (d := D) (s := st) (f := 91) (vs := [.sl [] 0 .nil, encT nilT']) rfl hL0
    simp only [encT, cellsT] at ct cl ce
    simp only [simB, keep1, Nat.reduceBEq, own1, String.reduceAppend, String.reduceBEq, Bool.or_false, Bool.or_true, Bool.or_self, ↓reduceIte, Nat.reduceEqDiff, Nat.reduceAdd, simA, simL, simN, Nat.zero_add, zex, List.toList_toArray, len9, ix9, zey, zez, zfa, zfb, zfc, zeroT, encT, opA_five64c, five64_str, ci, q1, ct, cellsT, ldT_a, s_eqlS, w0, w1, cr, ce, cl, st_Tt, stT_6]
    exact finish_T2 _ _ _ _ _ (listT [] nilT') _ _ _ _ _ (by simp only [zfr, ↓reduceIte, Nat.reduceEqDiff]; try rfl) (by simp only [zfr, ↓reduceIte, Nat.reduceEqDiff]; try rfl) (by simp only [zfr, ↓reduceIte, Nat.reduceEqDiff]; try rfl) rfl
  | cons u us =>
    have ct := fun D st => callA_owns (cfg := cfg1) (d := D) (s := st) (f := 53) (v := encT (.mk k n1 lg l s1 i1 kg ks)) rfl hi
    have hr := reverse_eq 100000 38 (u :: us) (by simp at hl ⊢; omega) (by simp at hl ⊢; omega)
    have cr := fun D st p t (hs : st p = ⟨t, .buf (cellsK (u :: us))⟩) => callA_rev (cfg := cfg1) (d := D) (s := st) (f := 90) (p := p) (t := t) rfl hs (by rw [cellsK_len]; omega) hr
    rw [List.length_reverse] at hL
    have cl := fun D st p t (hs : st p = ⟨t, .buf (cellsK (u :: us).reverse)⟩) => callA_lent (cfg := cfg1) (d := D) (s := st) (f := 91) (p := p) (t := t) (v := encT nilT') rfl hs (by rw [cellsK_len, List.length_reverse]) rfl rfl (fun _ h => by cases h) hL
    simp only [encT, cellsT, List.length_cons] at ct cl ce cr
    simp only [simB, keep1, Nat.reduceBEq, own1, String.reduceAppend, String.reduceBEq, Bool.or_false, Bool.or_true, Bool.or_self, ↓reduceIte, Nat.reduceEqDiff, Nat.reduceAdd, simA, simL, simN, Nat.zero_add, zex, List.toList_toArray, len9, ix9, zey, zez, zfa, zfb, zfc, zeroT, encT, opA_five64c, five64_str, ci, q1, ct, cellsT, ldT_a, s_eqlS, w0, w1, ce, cr, cl, st_Tt, stT_6]
    exact finish_T2 _ _ _ _ _ (listT (u :: us).reverse nilT') _ _ _ _ _ (by simp only [zfr, ↓reduceIte, Nat.reduceEqDiff]; try rfl) (by simp only [zfr, ↓reduceIte, Nat.reduceEqDiff]; try rfl) (by simp only [zfr, ↓reduceIte, Nat.reduceEqDiff]; try rfl) rfl
end Go.Ab

/- relictref03.Cmp, walked. Conditions: terms that may be. -/
namespace Go.Ab
open Go.Proofs
set_option maxRecDepth 100000
set_option linter.unusedSimpArgs false

theorem rrk1 (d : Nat) : evalFn Tryz.prog cfg0 100000 (d+2) 45 [.tree (.int .i64 1)] = some (.tree (.int .i64 1), [[]]) := by kernel_rfl
theorem rrk2 (d : Nat) : evalFn Tryz.prog cfg0 100000 (d+2) 45 [.tree (.int .i64 2)] = some (.tree (.int .i64 2), [[]]) := by kernel_rfl
theorem rrk3 (d : Nat) : evalFn Tryz.prog cfg0 100000 (d+2) 45 [.tree (.int .i64 3)] = some (.tree (.int .i64 5), [[]]) := by kernel_rfl
theorem rrk4 (d : Nat) : evalFn Tryz.prog cfg0 100000 (d+2) 45 [.tree (.int .i64 4)] = some (.tree (.int .i64 6), [[]]) := by kernel_rfl
theorem rrk5 (d : Nat) : evalFn Tryz.prog cfg0 100000 (d+2) 45 [.tree (.int .i64 5)] = some (.tree (.int .i64 4), [[]]) := by kernel_rfl
theorem rrk6 (d : Nat) : evalFn Tryz.prog cfg0 100000 (d+2) 45 [.tree (.int .i64 6)] = some (.tree (.int .i64 7), [[]]) := by kernel_rfl
theorem rthree_eq (n d : Nat) (x y : Int) : evalFn Tryz.prog cfg0 n (d+1) 44 [.tree (.int .i64 x), .tree (.int .i64 y)] = some (.tree (.int .i64 (three x y)), [[], []]) := by
  rw [evalFn_go _ Tryz.func44 (by unfold Tryz.f44; rfl) (by unfold Tryz.f44; decide) (Nat.le_of_ble_eq_true (by unfold Tryz.f44; rfl)) (by kernel_rfl)]
  unfold three
  by_cases h : x < y
  · simp only [simB, zbo, Nat.reduceBEq, own0, ↓reduceIte, Nat.reduceEqDiff, Nat.reduceAdd, simA, simL, h]
    exact finish_i _ _ _ _ _ _ _ (by simp only [zfr, ↓reduceIte, Nat.reduceEqDiff]; try rfl) rfl
  · by_cases h2 : x > y
    · have h3 : y < x := h2
      simp only [simB, zbo, Nat.reduceBEq, own0, ↓reduceIte, Nat.reduceEqDiff, Nat.reduceAdd, simA, simL, h, h2, h3]
      exact finish_i _ _ _ _ _ _ _ (by simp only [zfr, ↓reduceIte, Nat.reduceEqDiff]; try rfl) rfl
    · have h3 : ¬ y < x := h2
      simp only [simB, zbo, Nat.reduceBEq, own0, ↓reduceIte, Nat.reduceEqDiff, Nat.reduceAdd, simA, simL, h, h2, h3]
      exact finish_i _ _ _ _ _ _ _ (by simp only [zfr, ↓reduceIte, Nat.reduceEqDiff]; try rfl) rfl
theorem rtext3_eq (n d : Nat) (x y : List UInt8) : evalFn Tryz.prog cfg0 n (d+1) 47 [.tree (.str x), .tree (.str y)] = some (.tree (.int .i64 (strC x y)), [[], []]) := by
  rw [evalFn_go _ Tryz.func47 (by unfold Tryz.f47; rfl) (by unfold Tryz.f47; decide) (Nat.le_of_ble_eq_true (by unfold Tryz.f47; rfl)) (by kernel_rfl)]
  unfold strC
  cases h : Op.bytesLess x y with
  | true =>
    simp only [simB, zbo, Nat.reduceBEq, own0, ↓reduceIte, Nat.reduceEqDiff, Nat.reduceAdd, simA, simL, s_lssS, h]
    exact finish_i _ _ _ _ _ _ _ (by simp only [zfr, ↓reduceIte, Nat.reduceEqDiff]; try rfl) rfl
  | false =>
    by_cases g : x = y
    · have g' : (x == y) = true := beq_iff_eq.mpr g
      rw [if_pos g]
      simp only [simB, zbo, Nat.reduceBEq, own0, ↓reduceIte, Nat.reduceEqDiff, Nat.reduceAdd, simA, simL, s_lssS, s_gtrS, h, g', Bool.or_true, Bool.false_or, Bool.not_true]
      exact finish_i _ _ _ _ _ _ _ (by simp only [zfr, ↓reduceIte, Nat.reduceEqDiff]; try rfl) rfl
    · have g' : (x == y) = false := beq_eq_false_iff_ne.mpr g
      rw [if_neg g]
      simp only [simB, zbo, Nat.reduceBEq, own0, ↓reduceIte, Nat.reduceEqDiff, Nat.reduceAdd, simA, simL, s_lssS, s_gtrS, h, g', Bool.or_false, Bool.false_or, Bool.not_false]
      exact finish_i _ _ _ _ _ _ _ (by simp only [zfr, ↓reduceIte, Nat.reduceEqDiff]; try rfl) rfl
theorem rpart_eq (n d : Nat) (t : T) (i : Nat) (u : T) (r : List T) (h : (kidsT t).drop i = u :: r) : evalFn Tryz.prog cfg0 n (d+1) 48 [.tree (encT t), .tree (.int .i64 (i : Int))] = some (.tree (encT u), [[], []]) := by
  rw [evalFn_go _ Tryz.func48 (by unfold Tryz.f48; rfl) (by unfold Tryz.f48; decide) (Nat.le_of_ble_eq_true (by unfold Tryz.f48; rfl)) (by kernel_rfl)]
  obtain ⟨k, n1, lg, l, s, i1, kg, ks⟩ := t
  simp only [kidsT] at h
  have hil : i < ks.length := by have := congrArg List.length h; simp only [List.length_drop, List.length_cons] at this; omega
  have q1 : (i : Int) < (ks.length : Int) := by omega
  have ia := fun st => ia_K st ks (gr kg) i hil
  rw [h] at ia
  have ld := fun st => ld_K st u r
  simp only [encT] at ld
  simp only [simB, zbo, Nat.reduceBEq, own0, ↓reduceIte, Nat.reduceEqDiff, Nat.reduceAdd, simA, simL, simN, Nat.zero_add, zeroT, encT, cellsT, faT_4, ldT_4, Nat.reduceAdd, lenTk, q1, ia, ld, st_Tt, stT_6]
  exact finish_cT _ _ _ _ _ u _ _ _ (by simp only [zfr, ↓reduceIte, Nat.reduceEqDiff]; try rfl) (by simp only [zfr, ↓reduceIte, Nat.reduceEqDiff]; try rfl) rfl
theorem three_up (a b : Int) : three (a + 1) (b + 1) = three a b := by unfold three; split <;> split <;> (try split) <;> omega
end Go.Ab

/- bif.two: max, min, member; bif.Call of two arguments. Conditions: terms that may be. -/
namespace Go.Ab
open Go.Proofs
set_option maxRecDepth 100000
set_option linter.unusedSimpArgs false

def sMem : List UInt8 := [109, 101, 109, 98, 101, 114]
def sTrue : List UInt8 := [116, 114, 117, 101]
def sFalse : List UInt8 := [102, 97, 108, 115, 101]
def atomT (s : List UInt8) : T := .mk 2 false .n [] s 0 .n []
theorem bdT_at (s : List UInt8) : buildA Tryz.prog 29 [(0, .int .i64 2), (2, .str s)] = some (.agg (cellsT (atomT s))) := bdT_2 2 s
theorem atom_eq (n d : Nat) (s : List UInt8) : evalFn Tryz.prog cfg0 n (d+1) 29 [.tree (.str s)] = some (.tree (encT (atomT s)), [[]]) := by
  rw [evalFn_go _ Tryz.func29 (by unfold Tryz.f29; rfl) (by unfold Tryz.f29; decide) (Nat.le_of_ble_eq_true (by unfold Tryz.f29; rfl)) (by kernel_rfl)]
  simp only [simB, zbo, Nat.reduceBEq, own0, ↓reduceIte, Nat.reduceEqDiff, Nat.reduceAdd, simA, simL, simN, Nat.zero_add, zeroT, bdT_at, st_Tt, stT_6]
  exact finish_cT _ _ _ _ _ (atomT s) _ _ _ (by simp only [zfr, ↓reduceIte, Nat.reduceEqDiff]; try rfl) (by simp only [zfr, ↓reduceIte, Nat.reduceEqDiff]; try rfl) rfl
set_option maxHeartbeats 4000000 in
theorem twoMem_eq (R d : Nat) (a L u : T) (v : Bool) (h : evalFn Tryz.prog cfg0 R d 95 [.tree (encT a), .tree (encT L)] = some (.tree (.tup [encT u, .bool v]), [[], []])) : evalFn Tryz.prog cfg0 R (d+1) 63 [.tree (.str sMem), .tree (encT a), .tree (encT L)] = some (.tree (.tup [encT u, .bool v]), [[], [], []]) := by
  rw [evalFn_go _ Tryz.func63 (by unfold Tryz.f63; rfl) (by unfold Tryz.f63; decide) (Nat.le_of_ble_eq_true (by unfold Tryz.f63; rfl)) (by kernel_rfl)]
  have w0 : (sMem == ([101, 108, 101, 109, 101, 110, 116] : List UInt8)) = false := by decide
  have w1 : (sMem == ([109, 101, 109, 98, 101, 114] : List UInt8)) = true := by decide
  have w2 : (sMem == ([109, 97, 120] : List UInt8)) = false := by decide
  have w3 : (sMem == ([109, 105, 110] : List UInt8)) = false := by decide
  have c := fun D st => callA_trees (cfg := cfg0) (d := D) (s := st) (f := 95) (vs := [encT a, encT L]) rfl h
  simp only [encT] at c
  simp only [simB, zbo, Nat.reduceBEq, own0, ↓reduceIte, Nat.reduceEqDiff, Nat.reduceAdd, simA, simL, simN, Nat.zero_add, zex, List.toList_toArray, len9, ix9, zey, zez, zfa, zfb, zfc, zeroT, encT, ldT_u, s_eqlS, w0, w1, w2, w3, c, zdu, st_Tt, stT_6]
  exact finish_T2 _ _ _ _ _ u _ _ _ _ _ (by simp only [zfr, ↓reduceIte, Nat.reduceEqDiff]; try rfl) (by simp only [zfr, ↓reduceIte, Nat.reduceEqDiff]; try rfl) (by simp only [zfr, ↓reduceIte, Nat.reduceEqDiff]; try rfl) rfl
end Go.Ab

/- bif.Call of reverse, ++, list_to_tuple, tuple_to_list. Conditions: so many nodes at most. -/
namespace Go.Ab
open Go.Proofs
set_option maxRecDepth 100000
set_option linter.unusedSimpArgs false

def sPP : List UInt8 := [43, 43]
theorem oneRev_eq (R d : Nat) (t : T) (us : List T) (h : itemsT t = some us) (hl : us.length ≤ 2001) : evalFn Tryz.prog cfg0 R (d+1) 62 [.tree (.str sRev), .tree (encT t)] = some (.tree (.tup [encT (listT us.reverse nilT'), .bool true]), [[], []]) := by
  have hp : prim0 62 [.tree (.str sRev), .tree (encT t)] = some (.tree (.tup [encT (listT us.reverse nilT'), .bool true]), [[], []]) := by
    unfold prim0
    rw [if_neg (by decide), if_neg (by decide), if_pos (by simp only [isRev, sRev]; decide)]
    exact oneRev1_eq t us h hl
  have hc : cfg0.prim = prim0 := rfl
  rw [evalFn]
  simp only [hc, hp]
def tupJ (us : List T) : T := .mk 5 false .n [] [] 0 (kgOf us) us
theorem bdT_tup (us : List T) : buildA Tryz.prog 29 [(0, .int .i64 5), (4, .sl (cellsK us) us.length (gr (kgOf us)))] = some (.agg (cellsT (tupJ us))) := bdT_4 5 _ _ _
set_option maxHeartbeats 8000000 in
theorem twoPP_eq (R d : Nat) (hR : 100000 ≤ R) (a b : T) (us : List T) (h : itemsT a = some us) (hl : us.length ≤ 2001) : evalFn Tryz.prog cfg0 R (d+3) 63 [.tree (.str sPP), .tree (encT a), .tree (encT b)] = some (.tree (.tup [encT (listT us b), .bool true]), [[], [], []]) := by
  rw [evalFn_go _ Tryz.func63 (by unfold Tryz.f63; rfl) (by unfold Tryz.f63; decide) (Nat.le_of_ble_eq_true (by unfold Tryz.f63; rfl)) (by kernel_rfl)]
  have w0 : (sPP == ([101, 108, 101, 109, 101, 110, 116] : List UInt8)) = false := by decide
  have w1 : (sPP == ([109, 101, 109, 98, 101, 114] : List UInt8)) = false := by decide
  have w2 : (sPP == ([109, 97, 120] : List UInt8)) = false := by decide
  have w3 : (sPP == ([109, 105, 110] : List UInt8)) = false := by decide
  have ct := fun D st => callA_trees (cfg := cfg0) (d := D) (s := st) (f := 53) (vs := [encT a]) rfl (items_eq R (by omega) (d+1) a)
  rw [h] at ct
  have hT : isTree (.sl (cellsK us) us.length (gr (kgOf us))) = true := by
    by_cases h : us = []
    · rw [kgOf, if_pos h]; rfl
    · rw [kgOf, if_neg h]; rfl
  have cl := fun D st => callA_trees (cfg := cfg0) (d := D) (s := st) (f := 91) (vs := [.sl (cellsK us) us.length (gr (kgOf us)), encT b]) (by simp only [List.all_cons, hT]; rfl) (tList_eq R (d+1) us (gr (kgOf us)) b (by omega))
  simp only [encT, itemsV] at ct cl
  simp only [simB, zbo, Nat.reduceBEq, own0, ↓reduceIte, Nat.reduceEqDiff, Nat.reduceAdd, simA, simL, simN, Nat.zero_add, zex, List.toList_toArray, len9, ix9, zey, zez, zfa, zfb, zfc, zeroT, encT, ldT_u, s_eqlS, w0, w1, w2, w3, ct, cl, zdu, st_Tt, stT_6]
  exact finish_T2 _ _ _ _ _ (listT us b) _ _ _ _ _ (by simp only [zfr, ↓reduceIte, Nat.reduceEqDiff]; try rfl) (by simp only [zfr, ↓reduceIte, Nat.reduceEqDiff]; try rfl) (by simp only [zfr, ↓reduceIte, Nat.reduceEqDiff]; try rfl) rfl
end Go.Ab

/- bif.place, bif.Two, bif.Call of element. Conditions: numbers in range. -/
namespace Go.Ab
open Go.Proofs
set_option maxRecDepth 100000
set_option linter.unusedSimpArgs false

theorem st_Eg (s : St) (p k : Nat) (ys : List AV) (hl : ys.length = 7) : storeA Tryz.prog 31 s (.ptr p k 0) (.agg ys) = stT (s p) p k s ys := by
  simp only [storeA, settle, Option.bind_some, stT]
  cases h : s p with
  | mk t c => cases c <;> simp [eszE, hl]
theorem ldE_g (t k : Nat) (ys : List AV) (hl : ys.length = 7) : ldE Tryz.prog 31 ⟨t, .buf ys⟩ k 0 = if t = k then some (.agg ys) else none := by
  rw [ldE_buf, cellsE_buf]
  by_cases h : t = k
  · simp [h, partA, shE, hl]
    exact List.take_of_length_le (by omega)
  · simp [h]
theorem finish_T3g (k : Bool) (xs : List Arg) (a p e : Nat) (u : T) (b q e' : Nat) (t : Nat) (v : Bool) (env : Env) (s : St) (os : List (List AV)) (ys : List AV) (hl : ys.length = 7) (ha : env a = .ptr p e 0) (hs : s p = ⟨e, .buf (cellsT u)⟩) (hb : env b = .ptr q e' 0) (hq : s q = ⟨e', .buf ys⟩) (hv : env t = .bool v) (ho : outsA s 0 xs = some os) :
    finishP Tryz.prog k xs #[.cell a 29, .cell b 31, .tmp t] env s = some (.tree (.tup [encT u, .agg ys, .bool v]), os) := by
  have hl1 : loadA Tryz.prog 29 s (env a) = some (.agg (cellsT u)) := by rw [ha, zeo, hs, ldT_u, if_pos rfl]
  have hl2 : loadA Tryz.prog 31 s (env b) = some (.agg ys) := by rw [hb, zeo, hq, ldE_g _ _ _ hl, if_pos rfl]
  simp [finishP, isTmpR, rvA, hl1, hl2, hv, settleL, settle, ho, encT]
def T0 : T := .mk 0 false .n [] [] 0 .n []
theorem bdT_00 : buildA Tryz.prog 29 [] = some (.agg (cellsT T0)) := bdT_
def sErrW : List UInt8 := [101, 114, 114, 111, 114]
def sBad : List UInt8 := [98, 97, 100, 97, 114, 103]
def sEl : List UInt8 := [101, 108, 101, 109, 101, 110, 116]
theorem twoEl_eq (R d : Nat) (a b u : T) (v : Bool) (h : evalFn Tryz.prog cfg0 R d 25 [.tree (.int .i64 1), .tree (encT a), .tree (encT b)] = some (.tree (.tup [encT u, .bool v]), [[], [], []])) : evalFn Tryz.prog cfg0 R (d+1) 63 [.tree (.str sEl), .tree (encT a), .tree (encT b)] = some (.tree (.tup [encT u, .bool v]), [[], [], []]) := by
  rw [evalFn_go _ Tryz.func63 (by unfold Tryz.f63; rfl) (by unfold Tryz.f63; decide) (Nat.le_of_ble_eq_true (by unfold Tryz.f63; rfl)) (by kernel_rfl)]
  have w0 : (sEl == ([101, 108, 101, 109, 101, 110, 116] : List UInt8)) = true := by decide
  have c := fun D st => callA_trees (cfg := cfg0) (d := D) (s := st) (f := 25) (vs := [.int .i64 1, encT a, encT b]) rfl h
  simp only [encT] at c
  simp only [simB, zbo, Nat.reduceBEq, own0, ↓reduceIte, Nat.reduceEqDiff, Nat.reduceAdd, simA, simL, simN, Nat.zero_add, zex, List.toList_toArray, len9, ix9, zey, zez, zfa, zfb, zfc, zeroT, encT, ldT_u, s_eqlS, w0, c, zdu, st_Tt, stT_6]
  exact finish_T2 _ _ _ _ _ u _ _ _ _ _ (by simp only [zfr, ↓reduceIte, Nat.reduceEqDiff]; try rfl) (by simp only [zfr, ↓reduceIte, Nat.reduceEqDiff]; try rfl) (by simp only [zfr, ↓reduceIte, Nat.reduceEqDiff]; try rfl) rfl
theorem ldE_mixK (t k : Nat) (xs : List AV) (v : AV) : ldE Tryz.prog 22 ⟨t, .mix xs [(5, v)]⟩ k 5 = if t = k then some v else none := by
  simp only [ldE, ldC, shTk, heldL, if_true]
theorem ldE_mixT (t k : Nat) (u : T) (hs : List (Nat × AV)) : ldE Tryz.prog 29 ⟨t, .mix (cellsT u) hs⟩ k 0 = if t = k then some (.agg (cellsT u)) else none := by
  have := ldT_u t k u
  simp only [ldE, ldC, shT] at this ⊢
  exact this
theorem faE_mix (t p k off : Nat) (xs : List AV) (hs : List (Nat × AV)) : faE ⟨t, .mix xs hs⟩ p k off = if t = k then some (.ptr p k off) else none := by
  simp only [faE, cellsE]
  by_cases e : t = k <;> simp [e]
end Go.Ab

/- relictlaw19.few, relictref03.Nodes; slices of rows of terms, put behind one another. Conditions: lengths in range. -/
namespace Go.Ab
open Go.Proofs
set_option maxRecDepth 100000
set_option linter.unusedSimpArgs false

def fewR : Nat → List T → Bool
  | 0, _ => true
  | _ + 1, [] => true
  | n + 1, t :: r => decide (lgT t 100 ≥ 0) && fewR n r
theorem fewR_nil (n : Nat) : fewR n [] = true := by cases n <;> rfl
theorem fewR_all : ∀ (n : Nat) (ks : List T), fewR n ks = true → ks.length ≤ n → ∀ t ∈ ks, lgT t 100 ≥ 0
  | _, [], _, _, t, h => by cases h
  | 0, _ :: _, _, hl, _, _ => by simp at hl
  | n + 1, x :: r, h, hl, t, ht => by
    simp only [fewR, Bool.and_eq_true, decide_eq_true_eq] at h
    rcases List.mem_cons.mp ht with rfl | ht
    · exact h.1
    · exact fewR_all n r h.2 (by simpa using hl) t ht
set_option maxHeartbeats 4000000 in
theorem fewB_eq (R d : Nat) (hR : 2000 ≤ R) (hR2 : R ≤ 9223372036854775808) (hd : 103 ≤ d) (ks : List T) (g : Grip) (hb : bigK R ks) (hf : fewK R ks) :
    evalFn Tryz.prog cfg0 R (d+1) 6 [.tree (.sl (cellsK ks) ks.length g)] = some (.tree (.bool (fewR 12 ks && decide (ks.length ≤ 12))), [[]]) := by
  rw [evalFn_go _ Tryz.func6 (by unfold Tryz.f6; rfl) (by unfold Tryz.f6; decide) (Nat.le_of_ble_eq_true (by unfold Tryz.f6; rfl)) (by kernel_rfl)]
  obtain ⟨d', rfl⟩ : ∃ d', d = d' + 1 := ⟨d - 1, by omega⟩
  simp only [simB, zbo, Nat.reduceBEq, own0, ↓reduceIte, Nat.reduceEqDiff, Nat.reduceAdd, simA, simL, simN, Nat.zero_add, den_loop]
  refine loop_ends (X := Nat) (fun i env st => env 0 = .sl (cellsK ks) ks.length g ∧ env 3 = .int .i64 (i : Int) ∧ i ≤ ks.length ∧ i ≤ 12 ∧ fewR (12 - i) (ks.drop i) = fewR 12 ks) (fun i => 12 - i) (fun _ => (.tree (.bool (fewR 12 ks && decide (ks.length ≤ 12))), [[]])) ?_ R 0 _ _ (by omega) ⟨(by simp only [zfr, ↓reduceIte, Nat.reduceEqDiff, env0, List.getElem?_cons_zero]; try rfl), (by simp only [zfr, ↓reduceIte, Nat.reduceEqDiff]; try rfl), Nat.zero_le _, Nat.zero_le _, rfl⟩
  intro rr i hr ih env st ⟨e0, e3, hi, hi2, hc⟩
  cases hdr : ks.drop i with
  | nil =>
    have hil : i = ks.length := by have := congrArg List.length hdr; simp only [List.length_drop, List.length_nil] at this; omega
    have q1 : ¬ (i : Int) < (ks.length : Int) := by omega
    have q2 : (ks.length : Int) ≤ 12 := by omega
    have q3 : ks.length ≤ 12 := by omega
    rw [hdr, fewR_nil] at hc
    rw [← hc]
    simp only [simB, zbo, Nat.reduceBEq, own0, ↓reduceIte, Nat.reduceEqDiff, Nat.reduceAdd, simL, simN, Nat.zero_add, e0, e3, lenTk, q1, q2, q3]
    exact finish_b _ _ _ _ _ _ _ (by simp only [zfr, ↓reduceIte, Nat.reduceEqDiff]; try rfl) rfl
  | cons kid r =>
    have hil : i < ks.length := by have := congrArg List.length hdr; simp only [List.length_drop, List.length_cons] at this; omega
    have q1 : (i : Int) < (ks.length : Int) := by omega
    by_cases h12 : i = 12
    · have q2 : ¬ (i : Int) < 12 := by omega
      have q3 : ¬ ((ks.length : Int) ≤ 12) := by omega
      have q4 : ¬ (ks.length ≤ 12) := by omega
      rw [decide_eq_false q4, Bool.and_false]
      simp only [simB, zbo, Nat.reduceBEq, own0, ↓reduceIte, Nat.reduceEqDiff, Nat.reduceAdd, simL, simN, Nat.zero_add, e0, e3, lenTk, q1, q2, q3]
      exact finish_b _ _ _ _ _ _ _ (by simp only [zfr, ↓reduceIte, Nat.reduceEqDiff]; try rfl) rfl
    have q2 : (i : Int) < 12 := by omega
    obtain ⟨n, hn⟩ : ∃ n, 12 - i = n + 1 := ⟨11 - i, by omega⟩
    rw [hdr, hn] at hc
    simp only [fewR] at hc
    have kb := bigK_at R ks i kid r hdr hb
    have kf := fewK_at R ks i kid r hdr hf
    have cli := fun D st => callA_trees (cfg := cfg0) (d := D) (s := st) (f := 31) (vs := [encT kid, .int .i64 100]) rfl (Light_eq R hR hR2 d' kid 100 (by decide) (by decide) (by omega) kb kf)
    have ia := fun st => ia_K st ks g i hil
    rw [hdr] at ia
    have ld := fun st => ld_K st kid r
    simp only [encT] at cli ld
    by_cases hg : lgT kid 100 ≥ 0
    · rw [decide_eq_true hg] at cli hc
      rw [Bool.true_and] at hc
      have f5 := i_add Tryz.prog 3 (i : Int) 1 (by omega) (by omega)
      simp only [simB, zbo, Nat.reduceBEq, own0, ↓reduceIte, Nat.reduceEqDiff, Nat.reduceAdd, simL, simN, Nat.zero_add, e0, e3, lenTk, q1, q2, ia, ld, cli, unA_not', Bool.not_true, f5]
      exact ih (i + 1) _ _ (by omega) rfl ⟨(by simp only [zfr, ↓reduceIte, Nat.reduceEqDiff, e0]; try rfl), (by simp only [zfr, ↓reduceIte, Nat.reduceEqDiff]; try rfl), by omega, by omega, by rw [drop_next hdr, show 12 - (i + 1) = n by omega]; exact hc⟩
    · rw [decide_eq_false hg] at cli hc
      rw [Bool.false_and] at hc
      rw [← hc, Bool.false_and]
      simp only [simB, zbo, Nat.reduceBEq, own0, ↓reduceIte, Nat.reduceEqDiff, Nat.reduceAdd, simL, simN, Nat.zero_add, e0, e3, lenTk, q1, q2, ia, ld, cli, unA_not', Bool.not_false]
      exact finish_b _ _ _ _ _ _ _ (by simp only [zfr, ↓reduceIte, Nat.reduceEqDiff]; try rfl) rfl
theorem moreK (s : St) (vs : List T) (g : Grip) : moreA Tryz.prog 29 6 (some 22) s (.sl (cellsK vs) vs.length g) = some (cellsK vs, vs.length) := by
  simp only [moreA, Option.map_some, tkTk, cellsK_len, ↓reduceIte]
theorem roomK (n : Nat) (h : n ≤ 1000000) : n * byOf Tryz.prog 29 ≤ 140737488355328 ∧ n ≤ 9223372036854775807 := by
  have hb := of_decide_eq_true by28
  have : n * byOf Tryz.prog 29 ≤ 1000000 * 200 := Nat.mul_le_mul h hb
  omega
theorem appN (d : Nat) (s : St) (vs : List T) (g : Grip) (h : vs.length ≤ 1000000) : appendA Tryz.prog #[22, 22] d s (.sl [] 0 .nil) (.sl (cellsK vs) vs.length g) = some (.sl (cellsK vs) vs.length (.tok d ((s d).t + 1)), upd s d ⟨(s d).t + 1, .tok 6⟩) := by
  have hr := roomK vs.length h
  simp only [appendA, List.getElem?_toArray, List.getElem?_cons_zero, List.getElem?_cons_succ, Option.map_some, tkTk, eszT, Option.bind_some, moreK, baseA, List.length_nil, Nat.zero_mul, ↓reduceIte, zl28, and_true, Nat.zero_add, List.nil_append]
  rw [if_pos hr]
end Go.Ab

/- The statement BifOrders, its end. Conditions: terms that may be. -/
namespace Go.Ab
open Go.Proofs
set_option maxRecDepth 100000
set_option linter.unusedSimpArgs false

mutual
theorem few_node (N : Nat) : ∀ t : T, leanT t → nodT t ≤ N → 41 ≤ N → fewT (N + 1) t
  | .mk k b lg l s m kg ks, h, hn, h41 => by
    simp only [leanT] at h
    simp only [nodT] at hn
    have := nodK_len ks
    simp only [fewT]
    exact ⟨by omega, by omega, few_nodeK N ks h.2.2 (by omega) h41⟩
theorem few_nodeK (N : Nat) : ∀ ks : List T, leanK ks → nodK ks ≤ N → 41 ≤ N → fewK (N + 1) ks
  | [], _, _, _ => by simp only [fewK]
  | t :: r, h, hn, h41 => by
    simp only [leanK] at h
    simp only [nodK] at hn
    have := nod_pos t
    simp only [fewK]
    exact ⟨few_node N t h.1 (by omega) h41, few_nodeK N r h.2 (by omega) h41⟩
end
mutual
theorem fewT_le {m m' : Nat} (h : m ≤ m') : ∀ t : T, fewT m t → fewT m' t
  | .mk k b lg l s n kg ks, ht => by
    simp only [fewT] at ht ⊢
    exact ⟨by omega, by omega, fewK_le h ks ht.2.2⟩
theorem fewK_le {m m' : Nat} (h : m ≤ m') : ∀ ks : List T, fewK m ks → fewK m' ks
  | [], _ => by simp only [fewK]
  | t :: r, ht => by
    simp only [fewK] at ht ⊢
    exact ⟨fewT_le h t ht.1, fewK_le h r ht.2⟩
end
section
variable (R : Nat) (hR : 1000000 ≤ R) (a b : T) (l : List T) (n : Int) (ga : goodT a) (gb : goodT b) (na : nodT a ≤ 200) (nb : nodT b ≤ 200)
include hR na nb
omit na nb in
include ga in
end
end Go.Ab

/- relictlaw00.Term: a term in new memory (CFG3). Conditions: lengths in range. -/
namespace Go.Ab
open Go.Proofs
set_option maxRecDepth 100000
set_option linter.unusedSimpArgs false

noncomputable def prim3 (f : FuncId) (xs : List Arg) : Option Out := match f == 21 with
  | true => none
  | false => evalFn Tryz.prog cfg0 9223372036854775808 6190 f xs
noncomputable def cfg3 : Cfg := ⟨fun _ _ => false, fun _ => false, prim3, fun p => p == "=law.go:33"⟩
theorem own3 (p : String) : cfg3.ownAt p = (p == "=law.go:33") := rfl
theorem keep3 (f : FuncId) : cfg3.keep f = false := rfl
theorem ev3 {n d : Nat} {f : FuncId} {xs : List Arg} {o : Out} (h1 : (f == 21) = false) (h : evalFn Tryz.prog cfg0 9223372036854775808 6190 f xs = some o) : evalFn Tryz.prog cfg3 n (d+1) f xs = some o := by
  have hc : cfg3.prim = prim3 := rfl
  have hp : prim3 f xs = some o := by unfold prim3; rw [h1]; exact h
  rw [evalFn]
  simp only [hc, hp]
def setK : T → Gk → List T → T
  | .mk k b lg l s n _ _, kg, us => .mk k b lg l s n kg us
def TermM (e : Ent) (u : T) (us : List T) (x : AV) : Prop := (us = [] ∧ x = .sl [] 0 .nil ∧ e = ⟨1, .buf (cellsT (setK u .n []))⟩) ∨ (us ≠ [] ∧ ∃ q t, x = .sl (cellsK us) us.length (.tok q t) ∧ e = ⟨1, .mix (cellsT (setK u .l us)) [(5, x)]⟩)
theorem TermM.fa {e : Ent} {u : T} {us : List T} {x : AV} (h : TermM e u us x) (p : Nat) : faE e p 1 5 = some (.ptr p 1 5) := by
  rcases h with ⟨_, _, rfl⟩ | ⟨_, q, t, _, rfl⟩
  · rw [zeu, if_pos rfl]
  · rw [faE_mix, if_pos rfl]
theorem ldT_sK (t k : Nat) (u : T) (kg : Gk) (us : List T) : ldE Tryz.prog 22 ⟨t, .buf (cellsT (setK u kg us))⟩ k 5 = if t = k then some (.sl (cellsK us) us.length (gr kg)) else none := by
  obtain ⟨a, b, c, d, e, f, g, h⟩ := u
  exact ldT_4 _ _ _ _ _ _ _ _
theorem TermM.ld {e : Ent} {u : T} {us : List T} {x : AV} (h : TermM e u us x) : ldE Tryz.prog 22 e 1 5 = some x := by
  rcases h with ⟨_, rfl, rfl⟩ | ⟨_, q, t, _, rfl⟩
  · exact (ldT_sK 1 1 u .n []).trans (if_pos rfl)
  · exact (ldE_mixK 1 1 _ x).trans (if_pos rfl)
theorem TermM.all {e : Ent} {u : T} {us : List T} {x : AV} (h : TermM e u us x) : ldE Tryz.prog 29 e 1 0 = some (.agg (cellsT (setK u (kgOf us) us))) := by
  rcases h with ⟨rfl, _, rfl⟩ | ⟨hu, q, t, _, rfl⟩
  · exact (ldT_u 1 1 _).trans (if_pos rfl)
  · rw [kgOf, if_neg hu]
    exact (ldE_mixT 1 1 _ _).trans (if_pos rfl)
theorem set5 (u : T) (kg : Gk) (us vs : List T) : (cellsT (setK u kg us)).set 5 (.sl (cellsK vs) vs.length .loose) = cellsT (setK u .l vs) := by
  obtain ⟨a, b, c, d, e, f, g, h⟩ := u
  rfl
theorem TermM.store {s : St} {p : Nat} {u : T} {us vs : List T} {x x' : AV} {d : Nat} {s0 : St} (h : TermM (s p) u us x) (ha : Ap s0 d x' vs) (hv : vs ≠ []) :
    ∃ s', storeH Tryz.prog 22 s (.ptr p 1 5) x' = some s' ∧ (∀ q, q ≠ p → s' q = s q) ∧ TermM (s' p) u vs x' := by
  rcases ha with ⟨rfl, _⟩ | ⟨_, t, rfl, _⟩
  · exact absurd rfl hv
  refine ⟨upd s p ⟨1, .mix (cellsT (setK u .l vs)) [(5, .sl (cellsK vs) vs.length (.tok d t))]⟩, ?_, fun q hq => upd_ne _ _ hq, .inr ⟨hv, d, t, rfl, upd_same _ _ _⟩⟩
  rcases h with ⟨rfl, rfl, he⟩ | ⟨hu, q, t', rfl, he⟩
  · simp only [storeH, he, eszTk]
    rw [if_pos ⟨trivial, trivial, by rw [cellsT_len]; decide⟩, set5]
  · simp only [storeH, he, eszTk]
    rw [if_pos ⟨trivial, trivial, by rw [cellsT_len]; decide⟩, set5]
    rfl
theorem htK_J : ∀ (ks : List T) (i : Nat) (t : T) (r : List T), ks.drop i = t :: r → htT t ≤ htK ks
  | [], i, t, r, h => by simp at h
  | a :: q, 0, t, r, h => by
    simp only [List.drop_zero, List.cons.injEq] at h
    obtain ⟨rfl, rfl⟩ := h
    simp only [htK]; omega
  | a :: q, i + 1, t, r, h => by
    have := htK_J q i t r (by simpa using h)
    simp only [htK]; omega
mutual
def copyT : T → T
  | .mk k b _ l s n _ ks => .mk k b .l l s n (kgOf (copyK ks)) (copyK ks)
def copyK : List T → List T
  | [] => []
  | t :: r => copyT t :: copyK r
end
theorem copyK_map : ∀ ks : List T, copyK ks = ks.map copyT
  | [] => by simp only [copyK, List.map_nil]
  | t :: r => by simp only [copyK, List.map_cons, copyK_map r]
theorem bdT_full (k : Int) (b : Bool) (g : Gk) (l : List Nat) (s : List UInt8) (n : Int) : buildA Tryz.prog 29 [(0, .int .i64 k), (1, .agg [.bool b, encL g l]), (2, .str s), (3, .int .i64 n)] = some (.agg (cellsT (.mk k b g l s n .n []))) := by
  simp only [buildA, zeroT, tkT, plT, Option.bind_some]
  cases g <;> rfl
theorem one26_c3 (call : FuncId → List Arg → Option Out) (q : Bool) (d : Option Tmp) (ty : TypeId) (pos : String) (af : Array Edge) (g : Option (Nat × Bool)) (t : Nat) (env : Env) (s : St) (x : Operand) :
    opA Tryz.prog cfg3 call q ⟨d, .buildSlice 22 1 #[(0, x)], ty, pos, af, g⟩ t env s = (one26 (ev env x)).map (·, s) := by
  rw [opA_bs]
  simp only [tkTk, eszT, zeroT, Option.bind_some, List.map_cons, List.map_nil]
  rfl
theorem one26_KU (e : T) : one26 (.agg (cellsT e)) = some (.sl (cellsT e) 1 .tight) := by
  have := one26_K1 e
  simp only [cellsK, List.append_nil] at this
  exact this
set_option maxHeartbeats 16000000 in
theorem term3_eq (n : Nat) (hn : 100000 ≤ n) : ∀ (d : Nat) (t : T), htT t ≤ d → fewT 100000 t → evalFn Tryz.prog cfg3 n (d+1) 21 [.tree (encT t)] = some (.tree (encT (copyT t)), [[]])
  | 0, t, hd, _ => by obtain ⟨k, b, lg, l, s, m, kg, ks⟩ := t; simp only [htT] at hd; omega
  | d + 1, t, hd, hf => by
    have IH := term3_eq n hn d
    rw [evalFn_go _ Tryz.func21 (by unfold Tryz.f21; rfl) (by unfold Tryz.f21; decide) (Nat.le_of_ble_eq_true (by unfold Tryz.f21; rfl)) (by kernel_rfl)]
    obtain ⟨k, b, lg, l, s, m, kg, ks⟩ := t
    simp only [htT] at hd
    simp only [fewT] at hf
    obtain ⟨hl, hk, hfk⟩ := hf
    have cn := callQ_trees (f := 50) (vs := [encA b lg l]) (by cases lg <;> rfl) (ev3 (n := n) (d := d) rfl (copyN_eq 9223372036854775808 6188 b lg l (by omega)))
    simp only [encA] at cn
    have bd := bdT_full k b .l l s m
    simp only [simB, keep3, Nat.reduceBEq, own3, String.reduceAppend, String.reduceBEq, Bool.or_false, Bool.or_true, Bool.or_self, ↓reduceIte, Nat.reduceEqDiff, Nat.reduceAdd, simA, simL, simN, Nat.zero_add, encT, zeroT, cellsT, ldT_a, ldT_0, ldT_1, ldT_2, ldT_3, ldT_4, faT_0, faT_1, faT_2, faT_3, faT_4, Nat.reduceAdd, cn, bd, st_T, stT_buf, st0_1, zen, den_loop]
    refine loop_ends (X := Nat) (fun i env s' => env 1 = .ptr 1 1 0 ∧ env 2 = .ptr 2 1 0 ∧ env 3 = .ptr 3 1 0 ∧ env 4 = .int .i64 (i : Int) ∧ s' 1 = ⟨1, .buf (cellsT (.mk k b lg l s m kg ks))⟩ ∧ s' 2 = ⟨1, .buf [.int .i64 0, .bool false, .sl [] 0 .nil, .str [], .int .i64 0, .sl [] 0 .nil]⟩ ∧ (∃ x, Ap s' 31 x ((ks.take i).map copyT) ∧ TermM (s' 3) (.mk k b .l l s m .n []) ((ks.take i).map copyT) x) ∧ i ≤ ks.length) (fun i => ks.length - i) (fun _ => (.tree (encT (copyT (.mk k b lg l s m kg ks))), [[]])) ?_ n 0 _ _ (by omega) ⟨(by simp only [zfr, ↓reduceIte, Nat.reduceEqDiff]; try rfl), (by simp only [zfr, ↓reduceIte, Nat.reduceEqDiff]; try rfl), (by simp only [zfr, ↓reduceIte, Nat.reduceEqDiff]; try rfl), (by simp only [zfr, ↓reduceIte, Nat.reduceEqDiff]; try rfl), by simp only [cellsT]; exact (by simp only [zfr, ↓reduceIte, Nat.reduceEqDiff]; try rfl), (by simp only [zfr, ↓reduceIte, Nat.reduceEqDiff]; try rfl), ⟨.sl [] 0 .nil, .inl ⟨rfl, rfl⟩, .inl ⟨rfl, rfl, (by simp only [zfr, ↓reduceIte, Nat.reduceEqDiff]; try rfl)⟩⟩, Nat.zero_le _⟩
    rintro rr i hrr ih2 env st ⟨e1, e2, e3, e4, j1, j2, ⟨x, ap, tm⟩, hi⟩
    simp only [cellsT] at j1
    cases hdr : ks.drop i with
    | nil =>
      have hil : i = ks.length := by have := congrArg List.length hdr; simp only [List.length_drop, List.length_nil] at this; omega
      subst hil
      rw [List.take_length] at tm
      have q1 : ¬ ((ks.length : Int) < (ks.length : Int)) := by omega
      have ta := tm.all
      have hc : copyT (.mk k b lg l s m kg ks) = setK (.mk k b .l l s m .n []) (kgOf (ks.map copyT)) (ks.map copyT) := by simp only [copyT, copyK_map, setK]
      rw [hc]
      simp only [simB, keep3, Nat.reduceBEq, own3, String.reduceAppend, String.reduceBEq, Bool.or_false, Bool.or_true, Bool.or_self, ↓reduceIte, Nat.reduceEqDiff, Nat.reduceAdd, simL, simN, Nat.zero_add, e1, e2, e3, e4, j1, j2, faT_4, Nat.reduceAdd, ldT_4, lenTk, q1, ta, st_Tt, stT_6]
      exact finish_cT _ _ _ _ _ (setK (.mk k b .l l s m .n []) (kgOf (ks.map copyT)) (ks.map copyT)) _ _ _ (by simp only [zfr, ↓reduceIte, Nat.reduceEqDiff, e2]; try rfl) (by simp only [zfr, ↓reduceIte, Nat.reduceEqDiff]; try rfl) rfl
    | cons kid r =>
      have hil : i < ks.length := by have := congrArg List.length hdr; simp only [List.length_drop, List.length_cons] at this; omega
      have q1 : (i : Int) < (ks.length : Int) := by omega
      have hkd := htK_J ks i kid r hdr
      have ck := callQ_trees (f := 21) (vs := [encT kid]) rfl (IH kid (by omega) (fewK_at 100000 ks i kid r hdr hfk))
      have ia := fun st => ia_K st ks (gr kg) i hil
      rw [hdr] at ia
      have ld := fun st => ld_K st kid r
      have hx : ks[i]? = some kid := by rw [← Nat.add_zero i, ← List.getElem?_drop, hdr]; rfl
      have hm : (ks.take (i + 1)).map copyT = (ks.take i).map copyT ++ [copyT kid] := by
        rw [List.take_add_one, hx, List.map_append]; rfl
      have hlen : ((ks.take i).map copyT).length ≤ 1000000 := by rw [List.length_map, List.length_take]; omega
      obtain ⟨x', s', a1', a2', a3'⟩ := ap.push hlen (copyT kid)
      have tf := tm.fa 3
      have tl := tm.ld
      have h3 : s' 3 = st 3 := a3' 3 (by decide)
      have h1' : s' 1 = st 1 := a3' 1 (by decide)
      rw [j1] at h1'
      have tm3 : TermM (s' 3) (.mk k b .l l s m .n []) ((ks.take i).map copyT) x := by rw [h3]; exact tm
      obtain ⟨s2, b1, b2, b3⟩ := tm3.store a2' (by simp)
      have f5 := i_add Tryz.prog 3 (i : Int) 1 (by omega) (by omega)
      have tf' := tm3.fa 3
      simp only [encT] at ld ck
      simp only [simB, keep3, Nat.reduceBEq, own3, String.reduceAppend, String.reduceBEq, Bool.or_false, Bool.or_true, Bool.or_self, ↓reduceIte, Nat.reduceEqDiff, Nat.reduceAdd, simL, simN, Nat.zero_add, e1, e2, e3, e4, j1, j2, faT_4, Nat.reduceAdd, ldT_4, lenTk, q1, tf, tl, ia, ld, ck, one26_c3, one26_KU, a1', h1', tf', b1, f5]
      refine ih2 (i + 1) _ _ (by omega) rfl ⟨(by simp only [zfr, ↓reduceIte, Nat.reduceEqDiff, e1]; try rfl), (by simp only [zfr, ↓reduceIte, Nat.reduceEqDiff, e2]; try rfl), (by simp only [zfr, ↓reduceIte, Nat.reduceEqDiff, e3]; try rfl), (by simp only [zfr, ↓reduceIte, Nat.reduceEqDiff]; try rfl), ?_, ?_, ⟨x', ?_, ?_⟩, by omega⟩
      · rw [b2 1 (by decide), h1']; simp only [cellsT]
      · rw [b2 2 (by decide), a3' 2 (by decide), j2]
      · rw [hm]
        rcases a2' with ⟨g1, _⟩ | ⟨g1, tt, g2, g3⟩
        · exact absurd g1 (by simp)
        · exact .inr ⟨g1, tt, g2, by rw [b2 31 (by decide)]; exact g3⟩
      · rw [hm]; exact b3
end Go.Ab

/- relictlaw00.SameTerm of terms that differ in their rows' room alone. Conditions: lengths in range. -/
namespace Go.Ab
open Go.Proofs
set_option maxRecDepth 100000
set_option linter.unusedSimpArgs false

mutual
def bareT : T → T
  | .mk k b _ l s n _ ks => .mk k b .n l s n .n (bareK ks)
def bareK : List T → List T
  | [] => []
  | t :: r => bareT t :: bareK r
end
theorem bareK_len : ∀ ks : List T, (bareK ks).length = ks.length
  | [] => rfl
  | t :: r => by simp only [bareK, List.length_cons, bareK_len r]
theorem bareK_drop : ∀ (i : Nat) (ks : List T), bareK (ks.drop i) = (bareK ks).drop i
  | 0, ks => by simp
  | i + 1, [] => rfl
  | i + 1, t :: r => by simp only [List.drop_succ_cons, bareK, bareK_drop i r]
mutual
theorem bare_copy : ∀ t : T, bareT (copyT t) = bareT t
  | .mk k b lg l s n kg ks => by simp only [copyT, bareT, bareK_copy ks]
theorem bareK_copy : ∀ ks : List T, bareK (copyK ks) = bareK ks
  | [] => rfl
  | t :: r => by simp only [copyK, bareK, bare_copy t, bareK_copy r]
end
set_option maxHeartbeats 16000000 in
theorem sameX_eq (n : Nat) (hn : 100000 ≤ n) : ∀ (d : Nat) (x y : T), htT x ≤ d → fewT 100000 x → bareT x = bareT y →
    evalFn Tryz.prog cfg0 n (d+2) 11 [.tree (encT x), .tree (encT y)] = some (.tree (.bool true), [[], []])
  | 0, x, y, hd, _, _ => by obtain ⟨k, b, lg, l, s, m, kg, ks⟩ := x; simp only [htT] at hd; omega
  | d + 1, x, y, hd, hf, hb => by
    have IH := sameX_eq n hn d
    rw [evalFn_go _ Tryz.func11 (by unfold Tryz.f11; rfl) (by unfold Tryz.f11; decide) (Nat.le_of_ble_eq_true (by unfold Tryz.f11; rfl)) (by kernel_rfl)]
    obtain ⟨k, b, lg, l, s, m, kg, ks⟩ := x
    obtain ⟨k', b', lg', l', s', m', kg', ks'⟩ := y
    simp only [bareT, T.mk.injEq, true_and] at hb
    obtain ⟨rfl, rfl, rfl, rfl, rfl, hb⟩ := hb
    have hkl : ks.length = ks'.length := by have := congrArg List.length hb; rwa [bareK_len, bareK_len] at this
    simp only [htT] at hd
    simp only [fewT] at hf
    obtain ⟨hl, hk, hfk⟩ := hf
    have cn := fun D st => callA_trees (cfg := cfg0) (d := D) (s := st) (f := 39) (vs := [encA b lg l, encA b lg' l]) (by cases lg <;> cases lg' <;> rfl) (sameN_eq n d b lg lg' l (by omega) (by omega))
    simp only [encA] at cn
    have w1 : (k != k) = false := by simp
    have w2 : (m != m) = false := by simp
    have w3 : (!(s == s)) = false := by simp
    have w4 : ((ks'.length : Int) != (ks'.length : Int)) = false := by simp
    simp only [simB, zbo, Nat.reduceBEq, own0, ↓reduceIte, Nat.reduceEqDiff, Nat.reduceAdd, simA, simL, simN, Nat.zero_add, encT, cellsT, hkl, ldT_0, ldT_1, ldT_2, ldT_3, ldT_4, faT_0, faT_1, faT_2, faT_3, faT_4, Nat.reduceAdd, i_neqV, i_eqlV, s_eqlS, s_neqS, w1, w2, w3, w4, cn, unA_not', Bool.not_true, lenTk, st0_2, zen, den_loop]
    refine loop_ends (X := Nat) (fun i env s' => env 2 = .ptr 2 1 0 ∧ env 3 = .ptr 3 1 0 ∧ env 5 = .int .i64 (i : Int) ∧ s' 2 = ⟨1, .buf (cellsT (.mk k b lg l s m kg ks))⟩ ∧ s' 3 = ⟨1, .buf (cellsT (.mk k b lg' l s m kg' ks'))⟩ ∧ i ≤ ks.length) (fun i => ks.length - i) (fun _ => (.tree (.bool true), [[], []])) ?_ n 0 _ _ (by omega) ⟨(by simp only [zfr, ↓reduceIte, Nat.reduceEqDiff]; try rfl), (by simp only [zfr, ↓reduceIte, Nat.reduceEqDiff]; try rfl), (by simp only [zfr, ↓reduceIte, Nat.reduceEqDiff]; try rfl), by simp only [cellsT, hkl]; exact (by simp only [zfr, ↓reduceIte, Nat.reduceEqDiff]; try rfl), by simp only [cellsT]; exact (by simp only [zfr, ↓reduceIte, Nat.reduceEqDiff]; try rfl), Nat.zero_le _⟩
    rintro rr i hrr ih2 env st ⟨e2, e3, e5, j2, j3, hi⟩
    simp only [cellsT] at j2 j3
    cases hdr : ks.drop i with
    | nil =>
      have hil : i = ks.length := by have := congrArg List.length hdr; simp only [List.length_drop, List.length_nil] at this; omega
      subst hil
      have q1 : ¬ ((ks.length : Int) < (ks.length : Int)) := by omega
      simp only [simB, zbo, Nat.reduceBEq, own0, ↓reduceIte, Nat.reduceEqDiff, Nat.reduceAdd, simL, simN, Nat.zero_add, e2, e3, e5, j2, j3, faT_4, Nat.reduceAdd, ldT_4, lenTk, q1]
      exact finish_b _ _ _ _ _ _ _ (by simp only [zfr, ↓reduceIte, Nat.reduceEqDiff]; try rfl) rfl
    | cons kid r =>
      have hil : i < ks.length := by have := congrArg List.length hdr; simp only [List.length_drop, List.length_cons] at this; omega
      have q1 : (i : Int) < (ks.length : Int) := by omega
      have hkd := htK_J ks i kid r hdr
      have hbd : bareT kid :: bareK r = bareK (ks'.drop i) := by rw [bareK_drop, ← hb, ← bareK_drop, hdr]; rfl
      cases hdr' : ks'.drop i with
      | nil => rw [hdr'] at hbd; cases hbd
      | cons kid' r' =>
      rw [hdr'] at hbd
      simp only [bareK, List.cons.injEq] at hbd
      have ck := callQ_trees (f := 11) (vs := [encT kid, encT kid']) rfl (IH kid kid' (by omega) (fewK_at 100000 ks i kid r hdr hfk) hbd.1)
      have ia := fun st => ia_K st ks (gr kg) i hil
      have ia' := fun st => ia_K st ks' (gr kg') i (by omega)
      rw [hdr] at ia
      rw [hdr'] at ia'
      have ld := fun st => ld_K st kid r
      have ld' := fun st => ld_K st kid' r'
      have f5 := i_add Tryz.prog 3 (i : Int) 1 (by omega) (by omega)
      simp only [encT] at ld ld' ck
      simp only [simB, zbo, Nat.reduceBEq, own0, ↓reduceIte, Nat.reduceEqDiff, Nat.reduceAdd, simL, simN, Nat.zero_add, e2, e3, e5, j2, j3, faT_4, Nat.reduceAdd, ldT_4, lenTk, q1, ia, ia', ld, ld', ck, unA_not', Bool.not_true, f5]
      exact ih2 (i + 1) _ _ (by omega) rfl ⟨(by simp only [zfr, ↓reduceIte, Nat.reduceEqDiff, e2]; try rfl), (by simp only [zfr, ↓reduceIte, Nat.reduceEqDiff, e3]; try rfl), (by simp only [zfr, ↓reduceIte, Nat.reduceEqDiff]; try rfl), by simp only [cellsT]; exact (by simp only [zfr, ↓reduceIte, Nat.reduceEqDiff, j2]; try rfl), by simp only [cellsT]; exact (by simp only [zfr, ↓reduceIte, Nat.reduceEqDiff, j3]; try rfl), by omega⟩
end Go.Ab

/- bif.Arith and relictref19.Arith. Conditions: limbs in range. -/
namespace Go.Ab
open Go.Proofs
set_option maxRecDepth 100000
set_option linter.unusedSimpArgs false

def lgT' : T → Gk
  | .mk _ _ lg _ _ _ _ _ => lg
end Go.Ab

/- relictref03.Items of any term; bif.One, relictref19.One. Conditions: so many nodes at most. -/
namespace Go.Ab
open Go.Proofs
set_option maxRecDepth 100000
set_option linter.unusedSimpArgs false

theorem itR_k3 (r : Nat) (k : Int) (b : Bool) (lg : Gk) (l : List Nat) (s : List UInt8) (n : Int) (kg : Gk) (ks acc : List T) (h : k = 3) : itT (r + 1) (.mk k b lg l s n kg ks) acc = some acc := by rw [itT_mk, if_pos h]
theorem itR_no (r : Nat) (k : Int) (b : Bool) (lg : Gk) (l : List Nat) (s : List UInt8) (n : Int) (kg : Gk) (ks acc : List T) (h : k ≠ 3) (h4 : k ≠ 4) : itT (r + 1) (.mk k b lg l s n kg ks) acc = none := by rw [itT_mk, if_neg h, if_neg h4]
theorem itR_n2 (r : Nat) (k : Int) (b : Bool) (lg : Gk) (l : List Nat) (s : List UInt8) (n : Int) (kg : Gk) (ks acc : List T) (h : k ≠ 3) (h4 : k = 4) (h2 : ks.length ≠ 2) : itT (r + 1) (.mk k b lg l s n kg ks) acc = none := by
  rw [itT_mk, if_neg h, if_pos h4]
  match ks, h2 with
  | [], _ => rfl
  | [_], _ => rfl
  | [_, _], h => exact absurd rfl h
  | _ :: _ :: _ :: _, _ => rfl
theorem itR_2 (r : Nat) (k : Int) (b : Bool) (lg : Gk) (l : List Nat) (s : List UInt8) (n : Int) (kg : Gk) (x u : T) (acc : List T) (h : k ≠ 3) (h4 : k = 4) : itT (r + 1) (.mk k b lg l s n kg [x, u]) acc = itT r u (acc ++ [x]) := by
  rw [itT_mk, if_neg h, if_pos h4]
theorem itT_len : ∀ (r : Nat) (t : T) (acc us : List T), itT r t acc = some us → us.length ≤ acc.length + nodT t
  | 0, _, _, _, h => by cases h
  | r + 1, .mk k b lg l s n kg ks, acc, us, h => by
    by_cases k3 : k = 3
    · rw [itR_k3 _ _ _ _ _ _ _ _ _ _ k3] at h; cases h; omega
    by_cases k4 : k = 4
    · by_cases k2 : ks.length = 2
      · obtain ⟨x, u, rfl⟩ : ∃ x u, ks = [x, u] := by
          match ks, k2 with
          | [x, u], _ => exact ⟨x, u, rfl⟩
        rw [itR_2 _ _ _ _ _ _ _ _ _ _ _ k3 k4] at h
        have := itT_len r u _ us h
        simp only [List.length_append, List.length_cons, List.length_nil] at this
        have hx := nod_pos x
        simp only [nodT, nodK]
        omega
      · rw [itR_n2 _ _ _ _ _ _ _ _ _ _ k3 k4 k2] at h; cases h
    · rw [itR_no _ _ _ _ _ _ _ _ _ _ k3 k4] at h; cases h
set_option maxHeartbeats 8000000 in
theorem rItemsA_eq (R d : Nat) (t0 : T) (hn : nodT t0 ≤ 1999) (hR : 2010 ≤ R) : evalFn Tryz.prog cfg0 R (d+1) 55 [.tree (encT t0)] = some (.tree (itemsV (itemsT t0)), [[]]) := by
  rw [evalFn_go _ Tryz.func55 (by unfold Tryz.f55; rfl) (by unfold Tryz.f55; decide) (Nat.le_of_ble_eq_true (by unfold Tryz.f55; rfl)) (by kernel_rfl)]
  simp only [simB, zbo, Nat.reduceBEq, own0, ↓reduceIte, Nat.reduceEqDiff, Nat.reduceAdd, simA, simN, Nat.zero_add, encT, den_loop]
  refine loop_ends (X := T × List T) (fun x env s => env 1 = .ptr 1 1 0 ∧ s 1 = ⟨1, .buf (cellsT x.1)⟩ ∧ Ap s 23 (env 4) x.2 ∧ x.2.length + nodT x.1 ≤ 1999 ∧ itT (2001 - x.2.length) x.1 x.2 = itemsT t0) (fun x => 2001 - x.2.length) (fun _ => (.tree (itemsV (itemsT t0)), [[]])) ?_ R (t0, []) _ _ (by simp only [List.length_nil]; omega) ⟨(by simp only [zfr, ↓reduceIte, Nat.reduceEqDiff]; try rfl), (by simp only [zfr, ↓reduceIte, Nat.reduceEqDiff]; try rfl), .inl ⟨rfl, (by simp only [zfr, ↓reduceIte, Nat.reduceEqDiff]; try rfl)⟩, by simpa using hn, rfl⟩
  rintro rd ⟨t, acc⟩ hrd ih env st ⟨e1, j1, ap, hl, hit⟩
  simp only at j1 ap hl hit hrd
  have hnp := nod_pos t
  rw [← hit]
  generalize h4 : env 4 = x4 at ap
  have la : ∀ st, lenA Tryz.prog 22 st x4 = some (.int .i64 (acc.length : Int)) := fun st => by
    rcases ap with ⟨rfl, rfl⟩ | ⟨_, tt, rfl, _⟩
    · exact lenTk st [] 0 .nil
    · exact lenTk st _ _ _
  obtain ⟨r, hr⟩ : ∃ r, 2001 - acc.length = r + 1 := ⟨2000 - acc.length, by omega⟩
  rw [hr] at hit ⊢
  obtain ⟨k, b, lg, l, s, m, kg, ks⟩ := t
  simp only [cellsT] at j1
  by_cases k4 : k = 4
  rotate_left
  · have q4 : (k == 4) = false := beq_eq_false_iff_ne.mpr k4
    by_cases k3 : k = 3
    · rw [itR_k3 _ _ _ _ _ _ _ _ _ _ k3]
      have q3 : (k != 3) = false := by rw [k3]; rfl
      simp only [simB, zbo, Nat.reduceBEq, own0, ↓reduceIte, Nat.reduceEqDiff, Nat.reduceAdd, simL, simN, Nat.zero_add, e1, j1, h4, faT_0, ldT_0, i_eqlV, i_neqV, q3, q4]
      exact finish_Kb _ _ _ _ 23 x4 acc _ _ _ _ (by simp only [zfr, ↓reduceIte, Nat.reduceEqDiff]; try rfl) ap (by simp only [zfr, ↓reduceIte, Nat.reduceEqDiff]; try rfl) rfl
    · rw [itR_no _ _ _ _ _ _ _ _ _ _ k3 k4]
      have q3 : (k != 3) = true := bne_iff_ne.mpr k3
      simp only [simB, zbo, Nat.reduceBEq, own0, ↓reduceIte, Nat.reduceEqDiff, Nat.reduceAdd, simL, simN, Nat.zero_add, e1, j1, h4, faT_0, ldT_0, i_eqlV, i_neqV, q3, q4]
      exact finish_Kb _ _ _ _ 23 _ [] _ _ _ _ (by simp only [zfr, ↓reduceIte, Nat.reduceEqDiff]; try rfl) (.inl ⟨rfl, rfl⟩) (by simp only [zfr, ↓reduceIte, Nat.reduceEqDiff]; try rfl) rfl
  have k3 : k ≠ 3 := by omega
  have q4 : (k == 4) = true := by rw [k4]; rfl
  by_cases k2 : ks.length = 2
  rotate_left
  · rw [itR_n2 _ _ _ _ _ _ _ _ _ _ k3 k4 k2]
    have q5 : ((ks.length : Int) != 2) = true := bne_iff_ne.mpr (by omega)
    simp only [simB, zbo, Nat.reduceBEq, own0, ↓reduceIte, Nat.reduceEqDiff, Nat.reduceAdd, simL, simN, Nat.zero_add, e1, j1, h4, faT_0, ldT_0, faT_4, Nat.reduceAdd, ldT_4, lenTk, i_eqlV, i_neqV, q4, q5]
    exact finish_Kb _ _ _ _ 23 _ [] _ _ _ _ (by simp only [zfr, ↓reduceIte, Nat.reduceEqDiff]; try rfl) (.inl ⟨rfl, rfl⟩) (by simp only [zfr, ↓reduceIte, Nat.reduceEqDiff]; try rfl) rfl
  obtain ⟨h, u, rfl⟩ : ∃ h u, ks = [h, u] := by
    match ks, k2 with
    | [h, u], _ => exact ⟨h, u, rfl⟩
  rw [itR_2 _ _ _ _ _ _ _ _ _ _ _ k3 k4] at hit ⊢
  have hnh := nod_pos h
  simp only [nodT, nodK] at hl
  have q5 : (((2 : Nat) : Int) != 2) = false := rfl
  have q6 : ¬ ((acc.length : Int) ≥ 2000) := by omega
  obtain ⟨x', s', a1, a2, a3⟩ := ap.push (by omega) h
  have i0 : ∀ st, indexAddrA Tryz.prog 22 st (.sl (cellsK [h, u]) 2 (gr kg)) (.int .i64 0) = some (.rptr (cellsK [h, u])) := fun st => ia_K st [h, u] (gr kg) 0 (by simp)
  have i1 : ∀ st, indexAddrA Tryz.prog 22 st (.sl (cellsK [h, u]) 2 (gr kg)) (.int .i64 1) = some (.rptr (cellsK [u])) := fun st => ia_K st [h, u] (gr kg) 1 (by simp)
  have l0 := fun st => ld_K st h [u]
  have l1 := fun st => ld_K st u []
  simp only [encT] at l0 l1
  simp only [List.length_cons, List.length_nil, Nat.zero_add, Nat.reduceAdd] at j1
  have j1' : s' 1 = st 1 := a3 1 (by decide)
  rw [j1] at j1'
  simp only [simB, zbo, Nat.reduceBEq, own0, ↓reduceIte, Nat.reduceEqDiff, Nat.reduceAdd, simL, simN, Nat.zero_add, e1, j1, h4, la, faT_0, ldT_0, faT_4, Nat.reduceAdd, ldT_4, lenTk, i_eqlV, i_neqV, q4, q5, q6, i0, l0, opA_one26, one26_KU, a1, j1', i1, l1, st_Tt, stT_6]
  rw [hit]
  refine ih (u, acc ++ [h]) _ _ (by simp; omega) rfl ⟨(by simp only [zfr, ↓reduceIte, Nat.reduceEqDiff, e1]; try rfl), (by simp only [zfr, ↓reduceIte, Nat.reduceEqDiff]; try rfl), ?_, by simp only [List.length_append, List.length_cons, List.length_nil]; omega, ?_⟩
  · rcases a2 with ⟨g1, _⟩ | ⟨g1, tt, g2, g3⟩
    · exact absurd g1 (by simp)
    · exact .inr ⟨g1, tt, (by simp only [zfr, ↓reduceIte, Nat.reduceEqDiff, g2]; try rfl), by rw [upd_ne _ _ (by decide)]; exact g3⟩
  · simp only [List.length_append, List.length_cons, List.length_nil]
    rw [show 2001 - (acc.length + (0 + 1)) = r by omega]
    exact hit
end Go.Ab

/- bif.One, relictref19.One. Conditions: so many nodes at most. -/
namespace Go.Ab
open Go.Proofs
set_option maxRecDepth 100000
set_option linter.unusedSimpArgs false

def oneT (f : Int → T) (op : Int) (t : T) : T × Bool :=
  if (op = 1 ∨ op = 2) ∧ kindT t = 4 ∧ (kidsT t).length = 2 then ((kidsT t).getD (op.toNat - 1) T0, true)
  else if op = 3 ∧ kindT t = 5 then (f (kidsT t).length, true)
  else if op = 4 ∧ kindT t = 6 then (f (strT t).length, true)
  else if op = 5 then (match itemsT t with | some us => (f us.length, true) | none => (T0, false))
  else (T0, false)
theorem ld_KW (st : St) (t : T) (r : List T) : loadA Tryz.prog 29 st (.rptr (cellsK (t :: r))) = some (.agg (cellsT t)) := ld_K st t r
theorem len_two (ks : List T) (h : ks.length = 2) : ∃ x y, ks = [x, y] := by
  match ks, h with
  | [x, y], _ => exact ⟨x, y, rfl⟩
theorem one_12 (f : Int → T) (op : Int) (t x : T) (h1 : op = 1 ∨ op = 2) (h2 : kindT t = 4) (h3 : (kidsT t).length = 2) (hx : (kidsT t).getD (op.toNat - 1) T0 = x) : oneT f op t = (x, true) := by
  unfold oneT; rw [if_pos ⟨h1, h2, h3⟩, hx]
theorem one_no (f : Int → T) (op : Int) (t : T) (h1 : ¬ ((op = 1 ∨ op = 2) ∧ kindT t = 4 ∧ (kidsT t).length = 2)) (h2 : ¬ (op = 3 ∧ kindT t = 5)) (h3 : ¬ (op = 4 ∧ kindT t = 6)) (h4 : op ≠ 5 ∨ itemsT t = none) : oneT f op t = (T0, false) := by
  unfold oneT; rw [if_neg h1, if_neg h2, if_neg h3]
  by_cases h5 : op = 5
  · rw [if_pos h5, h4.resolve_left (by simp [h5])]
  · rw [if_neg h5]
theorem one_3 (f : Int → T) (t : T) (h : kindT t = 5) : oneT f 3 t = (f (kidsT t).length, true) := by
  unfold oneT; rw [if_neg (by omega), if_pos ⟨rfl, h⟩]
theorem one_4 (f : Int → T) (t : T) (h : kindT t = 6) : oneT f 4 t = (f (strT t).length, true) := by
  unfold oneT; rw [if_neg (by omega), if_neg (by omega), if_pos ⟨rfl, h⟩]
theorem one_5 (f : Int → T) (t : T) (us : List T) (h : itemsT t = some us) : oneT f 5 t = (f us.length, true) := by
  unfold oneT; rw [if_neg (by omega), if_neg (by omega), if_neg (by omega), if_pos rfl, h]
theorem items_len (t : T) (us : List T) (h : itemsT t = some us) : us.length ≤ nodT t := by
  unfold itemsT at h
  have := itT_len 2001 t [] us h
  rw [List.length_nil, Nat.zero_add] at this
  exact this
theorem bare_oneK : ∀ (ks ks' : List T) (i : Nat), bareK ks = bareK ks' → bareT (ks.getD i T0) = bareT (ks'.getD i T0)
  | [], [], i, _ => rfl
  | [], _ :: _, _, h => by cases h
  | _ :: _, [], _, h => by cases h
  | a :: r, b :: q, 0, h => by simp only [bareK, List.cons.injEq] at h; exact h.1
  | a :: r, b :: q, i + 1, h => by
    simp only [bareK, List.cons.injEq] at h
    simpa using bare_oneK r q i h.2
theorem itT_bare : ∀ (r : Nat) (t t' : T) (acc acc' : List T), bareT t = bareT t' → acc.length = acc'.length → (itT r t acc).map List.length = (itT r t' acc').map List.length
  | 0, _, _, _, _, _, _ => rfl
  | r + 1, .mk k b lg l s n kg ks, .mk k' b' lg' l' s' n' kg' ks', acc, acc', h, ha => by
    simp only [bareT, T.mk.injEq, true_and] at h
    obtain ⟨rfl, rfl, rfl, rfl, rfl, hb⟩ := h
    by_cases k3 : k = 3
    · rw [itR_k3 _ _ _ _ _ _ _ _ _ _ k3, itR_k3 _ _ _ _ _ _ _ _ _ _ k3]; simp [ha]
    by_cases k4 : k = 4
    · have hl : ks.length = ks'.length := by have := congrArg List.length hb; rwa [bareK_len, bareK_len] at this
      by_cases k2 : ks.length = 2
      · obtain ⟨x, u, rfl⟩ : ∃ x u, ks = [x, u] := by
          match ks, k2 with
          | [x, u], _ => exact ⟨x, u, rfl⟩
        obtain ⟨x', u', rfl⟩ : ∃ x u, ks' = [x, u] := by
          match ks', hl with
          | [x, u], _ => exact ⟨x, u, rfl⟩
        rw [itR_2 _ _ _ _ _ _ _ _ _ _ _ k3 k4, itR_2 _ _ _ _ _ _ _ _ _ _ _ k3 k4]
        simp only [bareK, List.cons.injEq] at hb
        exact itT_bare r u u' _ _ hb.2.1 (by simp [ha])
      · rw [itR_n2 _ _ _ _ _ _ _ _ _ _ k3 k4 k2, itR_n2 _ _ _ _ _ _ _ _ _ _ k3 k4 (by omega)]
    · rw [itR_no _ _ _ _ _ _ _ _ _ _ k3 k4, itR_no _ _ _ _ _ _ _ _ _ _ k3 k4]
theorem bare_one (op : Int) (t t' : T) (h : bareT t = bareT t') : bareT (oneT smallT op t).1 = bareT (oneT intT op t').1 ∧ (oneT smallT op t).2 = (oneT intT op t').2 := by
  have hs : ∀ v, bareT (smallT v) = bareT (intT v) := fun v => rfl
  have hi := itT_bare 2001 t t' [] [] h rfl
  have e1 : kindT t = kindT t' ∧ strT t = strT t' ∧ bareK (kidsT t) = bareK (kidsT t') := by
    obtain ⟨k, b, lg, l, s, m, kg, ks⟩ := t
    obtain ⟨k', b', lg', l', s', m', kg', ks'⟩ := t'
    simp only [bareT, T.mk.injEq, true_and] at h
    exact ⟨h.1, h.2.2.2.1, h.2.2.2.2.2⟩
  obtain ⟨ek, es, hb⟩ := e1
  have hl : (kidsT t).length = (kidsT t').length := by have := congrArg List.length hb; rwa [bareK_len, bareK_len] at this
  by_cases q1 : (op = 1 ∨ op = 2) ∧ kindT t = 4 ∧ (kidsT t).length = 2
  · rw [one_12 smallT op t _ q1.1 q1.2.1 q1.2.2 rfl, one_12 intT op t' _ q1.1 (by rw [← ek]; exact q1.2.1) (by rw [← hl]; exact q1.2.2) rfl]
    exact ⟨bare_oneK _ _ _ hb, rfl⟩
  by_cases q2 : op = 3 ∧ kindT t = 5
  · obtain ⟨rfl, q2⟩ := q2
    rw [one_3 smallT t q2, one_3 intT t' (by rw [← ek]; exact q2), hl]
    exact ⟨hs _, rfl⟩
  by_cases q3 : op = 4 ∧ kindT t = 6
  · obtain ⟨rfl, q3⟩ := q3
    rw [one_4 smallT t q3, one_4 intT t' (by rw [← ek]; exact q3), es]
    exact ⟨hs _, rfl⟩
  have q1' : ¬ ((op = 1 ∨ op = 2) ∧ kindT t' = 4 ∧ (kidsT t').length = 2) := by rw [← ek, ← hl]; exact q1
  have q2' : ¬ (op = 3 ∧ kindT t' = 5) := by rw [← ek]; exact q2
  have q3' : ¬ (op = 4 ∧ kindT t' = 6) := by rw [← ek]; exact q3
  by_cases q4 : op = 5
  · subst q4
    have hi2 : (itemsT t).map List.length = (itemsT t').map List.length := hi
    cases h1 : itemsT t with
    | none =>
      cases h2 : itemsT t' with
      | none => rw [one_no smallT 5 t q1 q2 q3 (.inr h1), one_no intT 5 t' q1' q2' q3' (.inr h2)]; exact ⟨rfl, rfl⟩
      | some v => rw [h1, h2] at hi2; cases hi2
    | some u =>
      cases h2 : itemsT t' with
      | none => rw [h1, h2] at hi2; cases hi2
      | some v =>
        rw [h1, h2] at hi2
        have hi3 : u.length = v.length := by simpa using hi2
        rw [one_5 smallT t u h1, one_5 intT t' v h2, hi3]
        exact ⟨hs _, rfl⟩
  · rw [one_no smallT op t q1 q2 q3 (.inl q4), one_no intT op t' q1' q2' q3' (.inl q4)]
    exact ⟨rfl, rfl⟩
set_option maxHeartbeats 16000000 in
theorem oneA_eq (R d : Nat) (hR : 100000 ≤ R) (op : Int) (t : T) (hn : nodT t ≤ 1999) (hk : (kidsT t).length ≤ 1000000) (hs : (strT t).length ≤ 1000000) : evalFn Tryz.prog cfg0 R (d+6) 23 [.tree (.int .i64 op), .tree (encT t)] = some (.tree (.tup [encT (oneT smallT op t).1, .bool (oneT smallT op t).2]), [[], []]) := by
  rw [evalFn_go _ Tryz.func23 (by unfold Tryz.f23; rfl) (by unfold Tryz.f23; decide) (Nat.le_of_ble_eq_true (by unfold Tryz.f23; rfl)) (by kernel_rfl)]
  have cn (v : Int) (hv : I64 v) := fun D st => callA_trees (cfg := cfg0) (d := D) (s := st) (f := 52) (vs := [.int .i64 v]) rfl (number_eq R (d+1) hR v hv)
  have ct := fun D st => callA_trees (cfg := cfg0) (d := D) (s := st) (f := 53) (vs := [encT t]) rfl (items_eq R (by omega) (d+4) t)
  have hit := items_len t
  obtain ⟨k, n1, lg, l, s1, i1, kg, ks⟩ := t
  simp only [kidsT, strT] at hk hs
  have c1 := cn (ks.length : Int) ⟨by omega, by omega⟩
  have c2 := cn (s1.length : Int) ⟨by omega, by omega⟩
  simp only [encT] at c1 c2 ct
  by_cases k4 : k = 4
  · have b4 : (k == 4) = true := by rw [k4]; rfl
    have b5 : (k == 5) = false := by rw [k4]; rfl
    have b6 : (k == 6) = false := by rw [k4]; rfl
    by_cases o1 : op = 1
    · subst o1
      by_cases k2 : ks.length = 2
      · obtain ⟨x, y, rfl⟩ := len_two ks k2
        rw [one_12 smallT 1 (.mk k n1 lg l s1 i1 kg [x, y]) x (by decide) k4 rfl rfl]
        have ia : ∀ st, indexAddrA Tryz.prog 22 st (.sl (cellsK [x, y]) 2 (gr kg)) (.int .i64 0) = some (.rptr (cellsK [x, y])) := fun st => ia_K st [x, y] (gr kg) 0 (by simp)
        have ld := fun st => ld_KW st x [y]
        have w2 : (((2 : Nat) : Int) == 2) = true := rfl
        simp only [simB, zbo, Nat.reduceBEq, own0, ↓reduceIte, Nat.reduceEqDiff, Nat.reduceAdd, simA, simL, simN, Nat.zero_add, zex, List.toList_toArray, len9, ix9, zey, zez, zfa, zfb, zfc, zeroT, encT, cellsT, ldT_a, ldT_0, ldT_2, ldT_4, faT_0, faT_2, faT_4, Nat.reduceAdd, Int.reduceSub, lenTk, i_eqlV, Int.reduceBEq, zdu, bdT_00, st_Tt, stT_6, List.length_cons, List.length_nil, Nat.zero_add, b4, w2, ia, ld]
        exact finish_T2 _ _ _ _ _ (x) _ _ _ _ _ (by simp only [zfr, ↓reduceIte, Nat.reduceEqDiff]; try rfl) (by simp only [zfr, ↓reduceIte, Nat.reduceEqDiff]; try rfl) (by simp only [zfr, ↓reduceIte, Nat.reduceEqDiff]; try rfl) rfl
      · have w2 : ((ks.length : Int) == 2) = false := beq_eq_false_iff_ne.mpr (by omega)
        rw [one_no smallT 1 (.mk k n1 lg l s1 i1 kg ks) (fun h => k2 h.2.2) (by omega) (by omega) (.inl (by decide))]
        simp only [simB, zbo, Nat.reduceBEq, own0, ↓reduceIte, Nat.reduceEqDiff, Nat.reduceAdd, simA, simL, simN, Nat.zero_add, zex, List.toList_toArray, len9, ix9, zey, zez, zfa, zfb, zfc, zeroT, encT, cellsT, ldT_a, ldT_0, ldT_2, ldT_4, faT_0, faT_2, faT_4, Nat.reduceAdd, Int.reduceSub, lenTk, i_eqlV, Int.reduceBEq, zdu, bdT_00, st_Tt, stT_6, b4, w2]
        exact finish_T2 _ _ _ _ _ T0 _ _ _ _ _ (by simp only [zfr, ↓reduceIte, Nat.reduceEqDiff]; try rfl) (by simp only [zfr, ↓reduceIte, Nat.reduceEqDiff]; try rfl) (by simp only [zfr, ↓reduceIte, Nat.reduceEqDiff]; try rfl) rfl
    by_cases o2 : op = 2
    · subst o2
      by_cases k2 : ks.length = 2
      · obtain ⟨x, y, rfl⟩ := len_two ks k2
        rw [one_12 smallT 2 (.mk k n1 lg l s1 i1 kg [x, y]) y (by decide) k4 rfl rfl]
        have ia : ∀ st, indexAddrA Tryz.prog 22 st (.sl (cellsK [x, y]) 2 (gr kg)) (.int .i64 1) = some (.rptr (cellsK [y])) := fun st => ia_K st [x, y] (gr kg) 1 (by simp)
        have ld := fun st => ld_KW st y []
        have w2 : (((2 : Nat) : Int) == 2) = true := rfl
        simp only [simB, zbo, Nat.reduceBEq, own0, ↓reduceIte, Nat.reduceEqDiff, Nat.reduceAdd, simA, simL, simN, Nat.zero_add, zex, List.toList_toArray, len9, ix9, zey, zez, zfa, zfb, zfc, zeroT, encT, cellsT, ldT_a, ldT_0, ldT_2, ldT_4, faT_0, faT_2, faT_4, Nat.reduceAdd, Int.reduceSub, lenTk, i_eqlV, Int.reduceBEq, zdu, bdT_00, st_Tt, stT_6, List.length_cons, List.length_nil, Nat.zero_add, b4, w2, ia, ld]
        exact finish_T2 _ _ _ _ _ (y) _ _ _ _ _ (by simp only [zfr, ↓reduceIte, Nat.reduceEqDiff]; try rfl) (by simp only [zfr, ↓reduceIte, Nat.reduceEqDiff]; try rfl) (by simp only [zfr, ↓reduceIte, Nat.reduceEqDiff]; try rfl) rfl
      · have w2 : ((ks.length : Int) == 2) = false := beq_eq_false_iff_ne.mpr (by omega)
        rw [one_no smallT 2 (.mk k n1 lg l s1 i1 kg ks) (fun h => k2 h.2.2) (by omega) (by omega) (.inl (by decide))]
        simp only [simB, zbo, Nat.reduceBEq, own0, ↓reduceIte, Nat.reduceEqDiff, Nat.reduceAdd, simA, simL, simN, Nat.zero_add, zex, List.toList_toArray, len9, ix9, zey, zez, zfa, zfb, zfc, zeroT, encT, cellsT, ldT_a, ldT_0, ldT_2, ldT_4, faT_0, faT_2, faT_4, Nat.reduceAdd, Int.reduceSub, lenTk, i_eqlV, Int.reduceBEq, zdu, bdT_00, st_Tt, stT_6, b4, w2]
        exact finish_T2 _ _ _ _ _ T0 _ _ _ _ _ (by simp only [zfr, ↓reduceIte, Nat.reduceEqDiff]; try rfl) (by simp only [zfr, ↓reduceIte, Nat.reduceEqDiff]; try rfl) (by simp only [zfr, ↓reduceIte, Nat.reduceEqDiff]; try rfl) rfl
    by_cases o3 : op = 3
    · subst o3
      rw [one_no smallT 3 (.mk k n1 lg l s1 i1 kg ks) (by omega) (fun h => by have := h.2; simp only [kindT] at this; omega) (by omega) (.inl (by decide))]
      simp only [simB, zbo, Nat.reduceBEq, own0, ↓reduceIte, Nat.reduceEqDiff, Nat.reduceAdd, simA, simL, simN, Nat.zero_add, zex, List.toList_toArray, len9, ix9, zey, zez, zfa, zfb, zfc, zeroT, encT, cellsT, ldT_a, ldT_0, ldT_2, ldT_4, faT_0, faT_2, faT_4, Nat.reduceAdd, Int.reduceSub, lenTk, i_eqlV, Int.reduceBEq, zdu, bdT_00, st_Tt, stT_6, b4, b5]
      exact finish_T2 _ _ _ _ _ T0 _ _ _ _ _ (by simp only [zfr, ↓reduceIte, Nat.reduceEqDiff]; try rfl) (by simp only [zfr, ↓reduceIte, Nat.reduceEqDiff]; try rfl) (by simp only [zfr, ↓reduceIte, Nat.reduceEqDiff]; try rfl) rfl
    by_cases o4 : op = 4
    · subst o4
      rw [one_no smallT 4 (.mk k n1 lg l s1 i1 kg ks) (by omega) (by omega) (fun h => by have := h.2; simp only [kindT] at this; omega) (.inl (by decide))]
      simp only [simB, zbo, Nat.reduceBEq, own0, ↓reduceIte, Nat.reduceEqDiff, Nat.reduceAdd, simA, simL, simN, Nat.zero_add, zex, List.toList_toArray, len9, ix9, zey, zez, zfa, zfb, zfc, zeroT, encT, cellsT, ldT_a, ldT_0, ldT_2, ldT_4, faT_0, faT_2, faT_4, Nat.reduceAdd, Int.reduceSub, lenTk, i_eqlV, Int.reduceBEq, zdu, bdT_00, st_Tt, stT_6, b4, b6]
      exact finish_T2 _ _ _ _ _ T0 _ _ _ _ _ (by simp only [zfr, ↓reduceIte, Nat.reduceEqDiff]; try rfl) (by simp only [zfr, ↓reduceIte, Nat.reduceEqDiff]; try rfl) (by simp only [zfr, ↓reduceIte, Nat.reduceEqDiff]; try rfl) rfl
    by_cases o5 : op = 5
    · subst o5
      cases hI : itemsT (.mk k n1 lg l s1 i1 kg ks) with
      | none =>
        rw [hI] at ct
        simp only [itemsV, cellsT] at ct
        rw [one_no smallT 5 (.mk k n1 lg l s1 i1 kg ks) (by omega) (by omega) (by omega) (.inr hI)]
        simp only [simB, zbo, Nat.reduceBEq, own0, ↓reduceIte, Nat.reduceEqDiff, Nat.reduceAdd, simA, simL, simN, Nat.zero_add, zex, List.toList_toArray, len9, ix9, zey, zez, zfa, zfb, zfc, zeroT, encT, cellsT, ldT_a, ldT_0, ldT_2, ldT_4, faT_0, faT_2, faT_4, Nat.reduceAdd, Int.reduceSub, lenTk, i_eqlV, Int.reduceBEq, zdu, bdT_00, st_Tt, stT_6, b4, ct]
        exact finish_T2 _ _ _ _ _ T0 _ _ _ _ _ (by simp only [zfr, ↓reduceIte, Nat.reduceEqDiff]; try rfl) (by simp only [zfr, ↓reduceIte, Nat.reduceEqDiff]; try rfl) (by simp only [zfr, ↓reduceIte, Nat.reduceEqDiff]; try rfl) rfl
      | some us =>
        rw [hI] at ct
        simp only [itemsV, cellsT] at ct
        have hu := hit us hI
        have c3 := cn (us.length : Int) ⟨by omega, by omega⟩
        simp only [encT] at c3
        rw [one_5 smallT (.mk k n1 lg l s1 i1 kg ks) us hI]
        simp only [simB, zbo, Nat.reduceBEq, own0, ↓reduceIte, Nat.reduceEqDiff, Nat.reduceAdd, simA, simL, simN, Nat.zero_add, zex, List.toList_toArray, len9, ix9, zey, zez, zfa, zfb, zfc, zeroT, encT, cellsT, ldT_a, ldT_0, ldT_2, ldT_4, faT_0, faT_2, faT_4, Nat.reduceAdd, Int.reduceSub, lenTk, i_eqlV, Int.reduceBEq, zdu, bdT_00, st_Tt, stT_6, b4, ct, c3]
        exact finish_T2 _ _ _ _ _ (smallT (us.length : Int)) _ _ _ _ _ (by simp only [zfr, ↓reduceIte, Nat.reduceEqDiff]; try rfl) (by simp only [zfr, ↓reduceIte, Nat.reduceEqDiff]; try rfl) (by simp only [zfr, ↓reduceIte, Nat.reduceEqDiff]; try rfl) rfl
    have p1 : (op == 1) = false := beq_eq_false_iff_ne.mpr o1
    have p2 : (op == 2) = false := beq_eq_false_iff_ne.mpr o2
    have p3 : (op == 3) = false := beq_eq_false_iff_ne.mpr o3
    have p4 : (op == 4) = false := beq_eq_false_iff_ne.mpr o4
    have p5 : (op == 5) = false := beq_eq_false_iff_ne.mpr o5
    rw [one_no smallT op (.mk k n1 lg l s1 i1 kg ks) (by omega) (by omega) (by omega) (.inl o5)]
    simp only [simB, zbo, Nat.reduceBEq, own0, ↓reduceIte, Nat.reduceEqDiff, Nat.reduceAdd, simA, simL, simN, Nat.zero_add, zex, List.toList_toArray, len9, ix9, zey, zez, zfa, zfb, zfc, zeroT, encT, cellsT, ldT_a, ldT_0, ldT_2, ldT_4, faT_0, faT_2, faT_4, Nat.reduceAdd, Int.reduceSub, lenTk, i_eqlV, Int.reduceBEq, zdu, bdT_00, st_Tt, stT_6, b4, p1, p2, p3, p4, p5]
    exact finish_T2 _ _ _ _ _ T0 _ _ _ _ _ (by simp only [zfr, ↓reduceIte, Nat.reduceEqDiff]; try rfl) (by simp only [zfr, ↓reduceIte, Nat.reduceEqDiff]; try rfl) (by simp only [zfr, ↓reduceIte, Nat.reduceEqDiff]; try rfl) rfl
  · have b4 : (k == 4) = false := by exact beq_eq_false_iff_ne.mpr k4
    by_cases o12 : op = 1 ∨ op = 2
    · rw [one_no smallT op (.mk k n1 lg l s1 i1 kg ks) (fun h => k4 h.2.1) (by omega) (by omega) (.inl (by omega))]
      rcases o12 with rfl | rfl
      · simp only [simB, zbo, Nat.reduceBEq, own0, ↓reduceIte, Nat.reduceEqDiff, Nat.reduceAdd, simA, simL, simN, Nat.zero_add, zex, List.toList_toArray, len9, ix9, zey, zez, zfa, zfb, zfc, zeroT, encT, cellsT, ldT_a, ldT_0, ldT_2, ldT_4, faT_0, faT_2, faT_4, Nat.reduceAdd, Int.reduceSub, lenTk, i_eqlV, Int.reduceBEq, zdu, bdT_00, st_Tt, stT_6, b4]
        exact finish_T2 _ _ _ _ _ T0 _ _ _ _ _ (by simp only [zfr, ↓reduceIte, Nat.reduceEqDiff]; try rfl) (by simp only [zfr, ↓reduceIte, Nat.reduceEqDiff]; try rfl) (by simp only [zfr, ↓reduceIte, Nat.reduceEqDiff]; try rfl) rfl
      · simp only [simB, zbo, Nat.reduceBEq, own0, ↓reduceIte, Nat.reduceEqDiff, Nat.reduceAdd, simA, simL, simN, Nat.zero_add, zex, List.toList_toArray, len9, ix9, zey, zez, zfa, zfb, zfc, zeroT, encT, cellsT, ldT_a, ldT_0, ldT_2, ldT_4, faT_0, faT_2, faT_4, Nat.reduceAdd, Int.reduceSub, lenTk, i_eqlV, Int.reduceBEq, zdu, bdT_00, st_Tt, stT_6, b4]
        exact finish_T2 _ _ _ _ _ T0 _ _ _ _ _ (by simp only [zfr, ↓reduceIte, Nat.reduceEqDiff]; try rfl) (by simp only [zfr, ↓reduceIte, Nat.reduceEqDiff]; try rfl) (by simp only [zfr, ↓reduceIte, Nat.reduceEqDiff]; try rfl) rfl
    have o1 : op ≠ 1 := fun h => o12 (.inl h)
    have o2 : op ≠ 2 := fun h => o12 (.inr h)
    by_cases o3 : op = 3
    · subst o3
      by_cases k5 : k = 5
      · rw [one_3 smallT (.mk k n1 lg l s1 i1 kg ks) k5]
        have b5 : (k == 5) = true := by rw [k5]; rfl
        simp only [simB, zbo, Nat.reduceBEq, own0, ↓reduceIte, Nat.reduceEqDiff, Nat.reduceAdd, simA, simL, simN, Nat.zero_add, zex, List.toList_toArray, len9, ix9, zey, zez, zfa, zfb, zfc, zeroT, encT, cellsT, ldT_a, ldT_0, ldT_2, ldT_4, faT_0, faT_2, faT_4, Nat.reduceAdd, Int.reduceSub, lenTk, i_eqlV, Int.reduceBEq, zdu, bdT_00, st_Tt, stT_6, b4, b5, c1]
        exact finish_T2 _ _ _ _ _ (smallT (ks.length : Int)) _ _ _ _ _ (by simp only [zfr, ↓reduceIte, Nat.reduceEqDiff]; try rfl) (by simp only [zfr, ↓reduceIte, Nat.reduceEqDiff]; try rfl) (by simp only [zfr, ↓reduceIte, Nat.reduceEqDiff]; try rfl) rfl
      · rw [one_no smallT 3 (.mk k n1 lg l s1 i1 kg ks) (by omega) (fun h => k5 h.2) (by omega) (.inl (by decide))]
        have b5 : (k == 5) = false := beq_eq_false_iff_ne.mpr k5
        simp only [simB, zbo, Nat.reduceBEq, own0, ↓reduceIte, Nat.reduceEqDiff, Nat.reduceAdd, simA, simL, simN, Nat.zero_add, zex, List.toList_toArray, len9, ix9, zey, zez, zfa, zfb, zfc, zeroT, encT, cellsT, ldT_a, ldT_0, ldT_2, ldT_4, faT_0, faT_2, faT_4, Nat.reduceAdd, Int.reduceSub, lenTk, i_eqlV, Int.reduceBEq, zdu, bdT_00, st_Tt, stT_6, b4, b5]
        exact finish_T2 _ _ _ _ _ T0 _ _ _ _ _ (by simp only [zfr, ↓reduceIte, Nat.reduceEqDiff]; try rfl) (by simp only [zfr, ↓reduceIte, Nat.reduceEqDiff]; try rfl) (by simp only [zfr, ↓reduceIte, Nat.reduceEqDiff]; try rfl) rfl
    by_cases o4 : op = 4
    · subst o4
      by_cases k6 : k = 6
      · rw [one_4 smallT (.mk k n1 lg l s1 i1 kg ks) k6]
        have b6 : (k == 6) = true := by rw [k6]; rfl
        simp only [simB, zbo, Nat.reduceBEq, own0, ↓reduceIte, Nat.reduceEqDiff, Nat.reduceAdd, simA, simL, simN, Nat.zero_add, zex, List.toList_toArray, len9, ix9, zey, zez, zfa, zfb, zfc, zeroT, encT, cellsT, ldT_a, ldT_0, ldT_2, ldT_4, faT_0, faT_2, faT_4, Nat.reduceAdd, Int.reduceSub, lenTk, i_eqlV, Int.reduceBEq, zdu, bdT_00, st_Tt, stT_6, b4, b6, c2]
        exact finish_T2 _ _ _ _ _ (smallT (s1.length : Int)) _ _ _ _ _ (by simp only [zfr, ↓reduceIte, Nat.reduceEqDiff]; try rfl) (by simp only [zfr, ↓reduceIte, Nat.reduceEqDiff]; try rfl) (by simp only [zfr, ↓reduceIte, Nat.reduceEqDiff]; try rfl) rfl
      · rw [one_no smallT 4 (.mk k n1 lg l s1 i1 kg ks) (by omega) (by omega) (fun h => k6 h.2) (.inl (by decide))]
        have b6 : (k == 6) = false := beq_eq_false_iff_ne.mpr k6
        simp only [simB, zbo, Nat.reduceBEq, own0, ↓reduceIte, Nat.reduceEqDiff, Nat.reduceAdd, simA, simL, simN, Nat.zero_add, zex, List.toList_toArray, len9, ix9, zey, zez, zfa, zfb, zfc, zeroT, encT, cellsT, ldT_a, ldT_0, ldT_2, ldT_4, faT_0, faT_2, faT_4, Nat.reduceAdd, Int.reduceSub, lenTk, i_eqlV, Int.reduceBEq, zdu, bdT_00, st_Tt, stT_6, b4, b6]
        exact finish_T2 _ _ _ _ _ T0 _ _ _ _ _ (by simp only [zfr, ↓reduceIte, Nat.reduceEqDiff]; try rfl) (by simp only [zfr, ↓reduceIte, Nat.reduceEqDiff]; try rfl) (by simp only [zfr, ↓reduceIte, Nat.reduceEqDiff]; try rfl) rfl
    by_cases o5 : op = 5
    · subst o5
      cases hI : itemsT (.mk k n1 lg l s1 i1 kg ks) with
      | none =>
        rw [hI] at ct
        simp only [itemsV, cellsT] at ct
        rw [one_no smallT 5 (.mk k n1 lg l s1 i1 kg ks) (by omega) (by omega) (by omega) (.inr hI)]
        simp only [simB, zbo, Nat.reduceBEq, own0, ↓reduceIte, Nat.reduceEqDiff, Nat.reduceAdd, simA, simL, simN, Nat.zero_add, zex, List.toList_toArray, len9, ix9, zey, zez, zfa, zfb, zfc, zeroT, encT, cellsT, ldT_a, ldT_0, ldT_2, ldT_4, faT_0, faT_2, faT_4, Nat.reduceAdd, Int.reduceSub, lenTk, i_eqlV, Int.reduceBEq, zdu, bdT_00, st_Tt, stT_6, b4, ct]
        exact finish_T2 _ _ _ _ _ T0 _ _ _ _ _ (by simp only [zfr, ↓reduceIte, Nat.reduceEqDiff]; try rfl) (by simp only [zfr, ↓reduceIte, Nat.reduceEqDiff]; try rfl) (by simp only [zfr, ↓reduceIte, Nat.reduceEqDiff]; try rfl) rfl
      | some us =>
        rw [hI] at ct
        simp only [itemsV, cellsT] at ct
        have hu := hit us hI
        have c3 := cn (us.length : Int) ⟨by omega, by omega⟩
        simp only [encT] at c3
        rw [one_5 smallT (.mk k n1 lg l s1 i1 kg ks) us hI]
        simp only [simB, zbo, Nat.reduceBEq, own0, ↓reduceIte, Nat.reduceEqDiff, Nat.reduceAdd, simA, simL, simN, Nat.zero_add, zex, List.toList_toArray, len9, ix9, zey, zez, zfa, zfb, zfc, zeroT, encT, cellsT, ldT_a, ldT_0, ldT_2, ldT_4, faT_0, faT_2, faT_4, Nat.reduceAdd, Int.reduceSub, lenTk, i_eqlV, Int.reduceBEq, zdu, bdT_00, st_Tt, stT_6, b4, ct, c3]
        exact finish_T2 _ _ _ _ _ (smallT (us.length : Int)) _ _ _ _ _ (by simp only [zfr, ↓reduceIte, Nat.reduceEqDiff]; try rfl) (by simp only [zfr, ↓reduceIte, Nat.reduceEqDiff]; try rfl) (by simp only [zfr, ↓reduceIte, Nat.reduceEqDiff]; try rfl) rfl
    have p1 : (op == 1) = false := beq_eq_false_iff_ne.mpr o1
    have p2 : (op == 2) = false := beq_eq_false_iff_ne.mpr o2
    have p3 : (op == 3) = false := beq_eq_false_iff_ne.mpr o3
    have p4 : (op == 4) = false := beq_eq_false_iff_ne.mpr o4
    have p5 : (op == 5) = false := beq_eq_false_iff_ne.mpr o5
    rw [one_no smallT op (.mk k n1 lg l s1 i1 kg ks) (by omega) (by omega) (by omega) (.inl o5)]
    simp only [simB, zbo, Nat.reduceBEq, own0, ↓reduceIte, Nat.reduceEqDiff, Nat.reduceAdd, simA, simL, simN, Nat.zero_add, zex, List.toList_toArray, len9, ix9, zey, zez, zfa, zfb, zfc, zeroT, encT, cellsT, ldT_a, ldT_0, ldT_2, ldT_4, faT_0, faT_2, faT_4, Nat.reduceAdd, Int.reduceSub, lenTk, i_eqlV, Int.reduceBEq, zdu, bdT_00, st_Tt, stT_6, b4, p1, p2, p3, p4, p5]
    exact finish_T2 _ _ _ _ _ T0 _ _ _ _ _ (by simp only [zfr, ↓reduceIte, Nat.reduceEqDiff]; try rfl) (by simp only [zfr, ↓reduceIte, Nat.reduceEqDiff]; try rfl) (by simp only [zfr, ↓reduceIte, Nat.reduceEqDiff]; try rfl) rfl
set_option maxHeartbeats 16000000 in
theorem roneA_eq (R d : Nat) (hR : 100000 ≤ R) (op : Int) (t : T) (hn : nodT t ≤ 1999) (hk : (kidsT t).length ≤ 1000000) (hs : (strT t).length ≤ 1000000) : evalFn Tryz.prog cfg0 R (d+6) 24 [.tree (.int .i64 op), .tree (encT t)] = some (.tree (.tup [encT (oneT intT op t).1, .bool (oneT intT op t).2]), [[], []]) := by
  rw [evalFn_go _ Tryz.func24 (by unfold Tryz.f24; rfl) (by unfold Tryz.f24; decide) (Nat.le_of_ble_eq_true (by unfold Tryz.f24; rfl)) (by kernel_rfl)]
  have cn (v : Int) (hv : I64 v) := fun D st => callA_trees (cfg := cfg0) (d := D) (s := st) (f := 54) (vs := [.int .i64 v]) rfl (rInt_eq R (d+1) hR v hv)
  have ct := fun D st => callA_trees (cfg := cfg0) (d := D) (s := st) (f := 55) (vs := [encT t]) rfl (rItemsA_eq R (d+4) t hn (by omega))
  have hit := items_len t
  obtain ⟨k, n1, lg, l, s1, i1, kg, ks⟩ := t
  simp only [kidsT, strT] at hk hs
  have c1 := cn (ks.length : Int) ⟨by omega, by omega⟩
  have c2 := cn (s1.length : Int) ⟨by omega, by omega⟩
  simp only [encT] at c1 c2 ct
  by_cases k4 : k = 4
  · have b4 : (k == 4) = true := by rw [k4]; rfl
    have b5 : (k == 5) = false := by rw [k4]; rfl
    have b6 : (k == 6) = false := by rw [k4]; rfl
    by_cases o1 : op = 1
    · subst o1
      by_cases k2 : ks.length = 2
      · obtain ⟨x, y, rfl⟩ := len_two ks k2
        rw [one_12 intT 1 (.mk k n1 lg l s1 i1 kg [x, y]) x (by decide) k4 rfl rfl]
        have ia : ∀ st, indexAddrA Tryz.prog 22 st (.sl (cellsK [x, y]) 2 (gr kg)) (.int .i64 0) = some (.rptr (cellsK [x, y])) := fun st => ia_K st [x, y] (gr kg) 0 (by simp)
        have ld := fun st => ld_KW st x [y]
        have w2 : (((2 : Nat) : Int) == 2) = true := rfl
        have f5 := i_sub Tryz.prog 3 (1 : Int) 1 (by omega) (by omega)
        simp only [simB, zbo, Nat.reduceBEq, own0, ↓reduceIte, Nat.reduceEqDiff, Nat.reduceAdd, simA, simL, simN, Nat.zero_add, zex, List.toList_toArray, len9, ix9, zey, zez, zfa, zfb, zfc, zeroT, encT, cellsT, ldT_a, ldT_0, ldT_2, ldT_4, faT_0, faT_2, faT_4, Nat.reduceAdd, Int.reduceSub, lenTk, i_eqlV, Int.reduceBEq, zdu, bdT_00, st_Tt, stT_6, List.length_cons, List.length_nil, Nat.zero_add, b4, w2, ia, ld, f5]
        exact finish_T2 _ _ _ _ _ (x) _ _ _ _ _ (by simp only [zfr, ↓reduceIte, Nat.reduceEqDiff]; try rfl) (by simp only [zfr, ↓reduceIte, Nat.reduceEqDiff]; try rfl) (by simp only [zfr, ↓reduceIte, Nat.reduceEqDiff]; try rfl) rfl
      · have w2 : ((ks.length : Int) == 2) = false := beq_eq_false_iff_ne.mpr (by omega)
        rw [one_no intT 1 (.mk k n1 lg l s1 i1 kg ks) (fun h => k2 h.2.2) (by omega) (by omega) (.inl (by decide))]
        simp only [simB, zbo, Nat.reduceBEq, own0, ↓reduceIte, Nat.reduceEqDiff, Nat.reduceAdd, simA, simL, simN, Nat.zero_add, zex, List.toList_toArray, len9, ix9, zey, zez, zfa, zfb, zfc, zeroT, encT, cellsT, ldT_a, ldT_0, ldT_2, ldT_4, faT_0, faT_2, faT_4, Nat.reduceAdd, Int.reduceSub, lenTk, i_eqlV, Int.reduceBEq, zdu, bdT_00, st_Tt, stT_6, b4, w2]
        exact finish_T2 _ _ _ _ _ T0 _ _ _ _ _ (by simp only [zfr, ↓reduceIte, Nat.reduceEqDiff]; try rfl) (by simp only [zfr, ↓reduceIte, Nat.reduceEqDiff]; try rfl) (by simp only [zfr, ↓reduceIte, Nat.reduceEqDiff]; try rfl) rfl
    by_cases o2 : op = 2
    · subst o2
      by_cases k2 : ks.length = 2
      · obtain ⟨x, y, rfl⟩ := len_two ks k2
        rw [one_12 intT 2 (.mk k n1 lg l s1 i1 kg [x, y]) y (by decide) k4 rfl rfl]
        have ia : ∀ st, indexAddrA Tryz.prog 22 st (.sl (cellsK [x, y]) 2 (gr kg)) (.int .i64 1) = some (.rptr (cellsK [y])) := fun st => ia_K st [x, y] (gr kg) 1 (by simp)
        have ld := fun st => ld_KW st y []
        have w2 : (((2 : Nat) : Int) == 2) = true := rfl
        have f5 := i_sub Tryz.prog 3 (2 : Int) 1 (by omega) (by omega)
        simp only [simB, zbo, Nat.reduceBEq, own0, ↓reduceIte, Nat.reduceEqDiff, Nat.reduceAdd, simA, simL, simN, Nat.zero_add, zex, List.toList_toArray, len9, ix9, zey, zez, zfa, zfb, zfc, zeroT, encT, cellsT, ldT_a, ldT_0, ldT_2, ldT_4, faT_0, faT_2, faT_4, Nat.reduceAdd, Int.reduceSub, lenTk, i_eqlV, Int.reduceBEq, zdu, bdT_00, st_Tt, stT_6, List.length_cons, List.length_nil, Nat.zero_add, b4, w2, ia, ld, f5]
        exact finish_T2 _ _ _ _ _ (y) _ _ _ _ _ (by simp only [zfr, ↓reduceIte, Nat.reduceEqDiff]; try rfl) (by simp only [zfr, ↓reduceIte, Nat.reduceEqDiff]; try rfl) (by simp only [zfr, ↓reduceIte, Nat.reduceEqDiff]; try rfl) rfl
      · have w2 : ((ks.length : Int) == 2) = false := beq_eq_false_iff_ne.mpr (by omega)
        rw [one_no intT 2 (.mk k n1 lg l s1 i1 kg ks) (fun h => k2 h.2.2) (by omega) (by omega) (.inl (by decide))]
        simp only [simB, zbo, Nat.reduceBEq, own0, ↓reduceIte, Nat.reduceEqDiff, Nat.reduceAdd, simA, simL, simN, Nat.zero_add, zex, List.toList_toArray, len9, ix9, zey, zez, zfa, zfb, zfc, zeroT, encT, cellsT, ldT_a, ldT_0, ldT_2, ldT_4, faT_0, faT_2, faT_4, Nat.reduceAdd, Int.reduceSub, lenTk, i_eqlV, Int.reduceBEq, zdu, bdT_00, st_Tt, stT_6, b4, w2]
        exact finish_T2 _ _ _ _ _ T0 _ _ _ _ _ (by simp only [zfr, ↓reduceIte, Nat.reduceEqDiff]; try rfl) (by simp only [zfr, ↓reduceIte, Nat.reduceEqDiff]; try rfl) (by simp only [zfr, ↓reduceIte, Nat.reduceEqDiff]; try rfl) rfl
    by_cases o3 : op = 3
    · subst o3
      rw [one_no intT 3 (.mk k n1 lg l s1 i1 kg ks) (by omega) (fun h => by have := h.2; simp only [kindT] at this; omega) (by omega) (.inl (by decide))]
      simp only [simB, zbo, Nat.reduceBEq, own0, ↓reduceIte, Nat.reduceEqDiff, Nat.reduceAdd, simA, simL, simN, Nat.zero_add, zex, List.toList_toArray, len9, ix9, zey, zez, zfa, zfb, zfc, zeroT, encT, cellsT, ldT_a, ldT_0, ldT_2, ldT_4, faT_0, faT_2, faT_4, Nat.reduceAdd, Int.reduceSub, lenTk, i_eqlV, Int.reduceBEq, zdu, bdT_00, st_Tt, stT_6, b4, b5]
      exact finish_T2 _ _ _ _ _ T0 _ _ _ _ _ (by simp only [zfr, ↓reduceIte, Nat.reduceEqDiff]; try rfl) (by simp only [zfr, ↓reduceIte, Nat.reduceEqDiff]; try rfl) (by simp only [zfr, ↓reduceIte, Nat.reduceEqDiff]; try rfl) rfl
    by_cases o4 : op = 4
    · subst o4
      rw [one_no intT 4 (.mk k n1 lg l s1 i1 kg ks) (by omega) (by omega) (fun h => by have := h.2; simp only [kindT] at this; omega) (.inl (by decide))]
      simp only [simB, zbo, Nat.reduceBEq, own0, ↓reduceIte, Nat.reduceEqDiff, Nat.reduceAdd, simA, simL, simN, Nat.zero_add, zex, List.toList_toArray, len9, ix9, zey, zez, zfa, zfb, zfc, zeroT, encT, cellsT, ldT_a, ldT_0, ldT_2, ldT_4, faT_0, faT_2, faT_4, Nat.reduceAdd, Int.reduceSub, lenTk, i_eqlV, Int.reduceBEq, zdu, bdT_00, st_Tt, stT_6, b4, b6]
      exact finish_T2 _ _ _ _ _ T0 _ _ _ _ _ (by simp only [zfr, ↓reduceIte, Nat.reduceEqDiff]; try rfl) (by simp only [zfr, ↓reduceIte, Nat.reduceEqDiff]; try rfl) (by simp only [zfr, ↓reduceIte, Nat.reduceEqDiff]; try rfl) rfl
    by_cases o5 : op = 5
    · subst o5
      cases hI : itemsT (.mk k n1 lg l s1 i1 kg ks) with
      | none =>
        rw [hI] at ct
        simp only [itemsV, cellsT] at ct
        rw [one_no intT 5 (.mk k n1 lg l s1 i1 kg ks) (by omega) (by omega) (by omega) (.inr hI)]
        simp only [simB, zbo, Nat.reduceBEq, own0, ↓reduceIte, Nat.reduceEqDiff, Nat.reduceAdd, simA, simL, simN, Nat.zero_add, zex, List.toList_toArray, len9, ix9, zey, zez, zfa, zfb, zfc, zeroT, encT, cellsT, ldT_a, ldT_0, ldT_2, ldT_4, faT_0, faT_2, faT_4, Nat.reduceAdd, Int.reduceSub, lenTk, i_eqlV, Int.reduceBEq, zdu, bdT_00, st_Tt, stT_6, b4, ct]
        exact finish_T2 _ _ _ _ _ T0 _ _ _ _ _ (by simp only [zfr, ↓reduceIte, Nat.reduceEqDiff]; try rfl) (by simp only [zfr, ↓reduceIte, Nat.reduceEqDiff]; try rfl) (by simp only [zfr, ↓reduceIte, Nat.reduceEqDiff]; try rfl) rfl
      | some us =>
        rw [hI] at ct
        simp only [itemsV, cellsT] at ct
        have hu := hit us hI
        have c3 := cn (us.length : Int) ⟨by omega, by omega⟩
        simp only [encT] at c3
        rw [one_5 intT (.mk k n1 lg l s1 i1 kg ks) us hI]
        simp only [simB, zbo, Nat.reduceBEq, own0, ↓reduceIte, Nat.reduceEqDiff, Nat.reduceAdd, simA, simL, simN, Nat.zero_add, zex, List.toList_toArray, len9, ix9, zey, zez, zfa, zfb, zfc, zeroT, encT, cellsT, ldT_a, ldT_0, ldT_2, ldT_4, faT_0, faT_2, faT_4, Nat.reduceAdd, Int.reduceSub, lenTk, i_eqlV, Int.reduceBEq, zdu, bdT_00, st_Tt, stT_6, b4, ct, c3]
        exact finish_T2 _ _ _ _ _ (intT (us.length : Int)) _ _ _ _ _ (by simp only [zfr, ↓reduceIte, Nat.reduceEqDiff]; try rfl) (by simp only [zfr, ↓reduceIte, Nat.reduceEqDiff]; try rfl) (by simp only [zfr, ↓reduceIte, Nat.reduceEqDiff]; try rfl) rfl
    have p1 : (op == 1) = false := beq_eq_false_iff_ne.mpr o1
    have p2 : (op == 2) = false := beq_eq_false_iff_ne.mpr o2
    have p3 : (op == 3) = false := beq_eq_false_iff_ne.mpr o3
    have p4 : (op == 4) = false := beq_eq_false_iff_ne.mpr o4
    have p5 : (op == 5) = false := beq_eq_false_iff_ne.mpr o5
    rw [one_no intT op (.mk k n1 lg l s1 i1 kg ks) (by omega) (by omega) (by omega) (.inl o5)]
    simp only [simB, zbo, Nat.reduceBEq, own0, ↓reduceIte, Nat.reduceEqDiff, Nat.reduceAdd, simA, simL, simN, Nat.zero_add, zex, List.toList_toArray, len9, ix9, zey, zez, zfa, zfb, zfc, zeroT, encT, cellsT, ldT_a, ldT_0, ldT_2, ldT_4, faT_0, faT_2, faT_4, Nat.reduceAdd, Int.reduceSub, lenTk, i_eqlV, Int.reduceBEq, zdu, bdT_00, st_Tt, stT_6, b4, p1, p2, p3, p4, p5]
    exact finish_T2 _ _ _ _ _ T0 _ _ _ _ _ (by simp only [zfr, ↓reduceIte, Nat.reduceEqDiff]; try rfl) (by simp only [zfr, ↓reduceIte, Nat.reduceEqDiff]; try rfl) (by simp only [zfr, ↓reduceIte, Nat.reduceEqDiff]; try rfl) rfl
  · have b4 : (k == 4) = false := by exact beq_eq_false_iff_ne.mpr k4
    by_cases o12 : op = 1 ∨ op = 2
    · rw [one_no intT op (.mk k n1 lg l s1 i1 kg ks) (fun h => k4 h.2.1) (by omega) (by omega) (.inl (by omega))]
      rcases o12 with rfl | rfl
      · simp only [simB, zbo, Nat.reduceBEq, own0, ↓reduceIte, Nat.reduceEqDiff, Nat.reduceAdd, simA, simL, simN, Nat.zero_add, zex, List.toList_toArray, len9, ix9, zey, zez, zfa, zfb, zfc, zeroT, encT, cellsT, ldT_a, ldT_0, ldT_2, ldT_4, faT_0, faT_2, faT_4, Nat.reduceAdd, Int.reduceSub, lenTk, i_eqlV, Int.reduceBEq, zdu, bdT_00, st_Tt, stT_6, b4]
        exact finish_T2 _ _ _ _ _ T0 _ _ _ _ _ (by simp only [zfr, ↓reduceIte, Nat.reduceEqDiff]; try rfl) (by simp only [zfr, ↓reduceIte, Nat.reduceEqDiff]; try rfl) (by simp only [zfr, ↓reduceIte, Nat.reduceEqDiff]; try rfl) rfl
      · simp only [simB, zbo, Nat.reduceBEq, own0, ↓reduceIte, Nat.reduceEqDiff, Nat.reduceAdd, simA, simL, simN, Nat.zero_add, zex, List.toList_toArray, len9, ix9, zey, zez, zfa, zfb, zfc, zeroT, encT, cellsT, ldT_a, ldT_0, ldT_2, ldT_4, faT_0, faT_2, faT_4, Nat.reduceAdd, Int.reduceSub, lenTk, i_eqlV, Int.reduceBEq, zdu, bdT_00, st_Tt, stT_6, b4]
        exact finish_T2 _ _ _ _ _ T0 _ _ _ _ _ (by simp only [zfr, ↓reduceIte, Nat.reduceEqDiff]; try rfl) (by simp only [zfr, ↓reduceIte, Nat.reduceEqDiff]; try rfl) (by simp only [zfr, ↓reduceIte, Nat.reduceEqDiff]; try rfl) rfl
    have o1 : op ≠ 1 := fun h => o12 (.inl h)
    have o2 : op ≠ 2 := fun h => o12 (.inr h)
    by_cases o3 : op = 3
    · subst o3
      by_cases k5 : k = 5
      · rw [one_3 intT (.mk k n1 lg l s1 i1 kg ks) k5]
        have b5 : (k == 5) = true := by rw [k5]; rfl
        simp only [simB, zbo, Nat.reduceBEq, own0, ↓reduceIte, Nat.reduceEqDiff, Nat.reduceAdd, simA, simL, simN, Nat.zero_add, zex, List.toList_toArray, len9, ix9, zey, zez, zfa, zfb, zfc, zeroT, encT, cellsT, ldT_a, ldT_0, ldT_2, ldT_4, faT_0, faT_2, faT_4, Nat.reduceAdd, Int.reduceSub, lenTk, i_eqlV, Int.reduceBEq, zdu, bdT_00, st_Tt, stT_6, b4, b5, c1]
        exact finish_T2 _ _ _ _ _ (intT (ks.length : Int)) _ _ _ _ _ (by simp only [zfr, ↓reduceIte, Nat.reduceEqDiff]; try rfl) (by simp only [zfr, ↓reduceIte, Nat.reduceEqDiff]; try rfl) (by simp only [zfr, ↓reduceIte, Nat.reduceEqDiff]; try rfl) rfl
      · rw [one_no intT 3 (.mk k n1 lg l s1 i1 kg ks) (by omega) (fun h => k5 h.2) (by omega) (.inl (by decide))]
        have b5 : (k == 5) = false := beq_eq_false_iff_ne.mpr k5
        simp only [simB, zbo, Nat.reduceBEq, own0, ↓reduceIte, Nat.reduceEqDiff, Nat.reduceAdd, simA, simL, simN, Nat.zero_add, zex, List.toList_toArray, len9, ix9, zey, zez, zfa, zfb, zfc, zeroT, encT, cellsT, ldT_a, ldT_0, ldT_2, ldT_4, faT_0, faT_2, faT_4, Nat.reduceAdd, Int.reduceSub, lenTk, i_eqlV, Int.reduceBEq, zdu, bdT_00, st_Tt, stT_6, b4, b5]
        exact finish_T2 _ _ _ _ _ T0 _ _ _ _ _ (by simp only [zfr, ↓reduceIte, Nat.reduceEqDiff]; try rfl) (by simp only [zfr, ↓reduceIte, Nat.reduceEqDiff]; try rfl) (by simp only [zfr, ↓reduceIte, Nat.reduceEqDiff]; try rfl) rfl
    by_cases o4 : op = 4
    · subst o4
      by_cases k6 : k = 6
      · rw [one_4 intT (.mk k n1 lg l s1 i1 kg ks) k6]
        have b6 : (k == 6) = true := by rw [k6]; rfl
        simp only [simB, zbo, Nat.reduceBEq, own0, ↓reduceIte, Nat.reduceEqDiff, Nat.reduceAdd, simA, simL, simN, Nat.zero_add, zex, List.toList_toArray, len9, ix9, zey, zez, zfa, zfb, zfc, zeroT, encT, cellsT, ldT_a, ldT_0, ldT_2, ldT_4, faT_0, faT_2, faT_4, Nat.reduceAdd, Int.reduceSub, lenTk, i_eqlV, Int.reduceBEq, zdu, bdT_00, st_Tt, stT_6, b4, b6, c2]
        exact finish_T2 _ _ _ _ _ (intT (s1.length : Int)) _ _ _ _ _ (by simp only [zfr, ↓reduceIte, Nat.reduceEqDiff]; try rfl) (by simp only [zfr, ↓reduceIte, Nat.reduceEqDiff]; try rfl) (by simp only [zfr, ↓reduceIte, Nat.reduceEqDiff]; try rfl) rfl
      · rw [one_no intT 4 (.mk k n1 lg l s1 i1 kg ks) (by omega) (by omega) (fun h => k6 h.2) (.inl (by decide))]
        have b6 : (k == 6) = false := beq_eq_false_iff_ne.mpr k6
        simp only [simB, zbo, Nat.reduceBEq, own0, ↓reduceIte, Nat.reduceEqDiff, Nat.reduceAdd, simA, simL, simN, Nat.zero_add, zex, List.toList_toArray, len9, ix9, zey, zez, zfa, zfb, zfc, zeroT, encT, cellsT, ldT_a, ldT_0, ldT_2, ldT_4, faT_0, faT_2, faT_4, Nat.reduceAdd, Int.reduceSub, lenTk, i_eqlV, Int.reduceBEq, zdu, bdT_00, st_Tt, stT_6, b4, b6]
        exact finish_T2 _ _ _ _ _ T0 _ _ _ _ _ (by simp only [zfr, ↓reduceIte, Nat.reduceEqDiff]; try rfl) (by simp only [zfr, ↓reduceIte, Nat.reduceEqDiff]; try rfl) (by simp only [zfr, ↓reduceIte, Nat.reduceEqDiff]; try rfl) rfl
    by_cases o5 : op = 5
    · subst o5
      cases hI : itemsT (.mk k n1 lg l s1 i1 kg ks) with
      | none =>
        rw [hI] at ct
        simp only [itemsV, cellsT] at ct
        rw [one_no intT 5 (.mk k n1 lg l s1 i1 kg ks) (by omega) (by omega) (by omega) (.inr hI)]
        simp only [simB, zbo, Nat.reduceBEq, own0, ↓reduceIte, Nat.reduceEqDiff, Nat.reduceAdd, simA, simL, simN, Nat.zero_add, zex, List.toList_toArray, len9, ix9, zey, zez, zfa, zfb, zfc, zeroT, encT, cellsT, ldT_a, ldT_0, ldT_2, ldT_4, faT_0, faT_2, faT_4, Nat.reduceAdd, Int.reduceSub, lenTk, i_eqlV, Int.reduceBEq, zdu, bdT_00, st_Tt, stT_6, b4, ct]
        exact finish_T2 _ _ _ _ _ T0 _ _ _ _ _ (by simp only [zfr, ↓reduceIte, Nat.reduceEqDiff]; try rfl) (by simp only [zfr, ↓reduceIte, Nat.reduceEqDiff]; try rfl) (by simp only [zfr, ↓reduceIte, Nat.reduceEqDiff]; try rfl) rfl
      | some us =>
        rw [hI] at ct
        simp only [itemsV, cellsT] at ct
        have hu := hit us hI
        have c3 := cn (us.length : Int) ⟨by omega, by omega⟩
        simp only [encT] at c3
        rw [one_5 intT (.mk k n1 lg l s1 i1 kg ks) us hI]
        simp only [simB, zbo, Nat.reduceBEq, own0, ↓reduceIte, Nat.reduceEqDiff, Nat.reduceAdd, simA, simL, simN, Nat.zero_add, zex, List.toList_toArray, len9, ix9, zey, zez, zfa, zfb, zfc, zeroT, encT, cellsT, ldT_a, ldT_0, ldT_2, ldT_4, faT_0, faT_2, faT_4, Nat.reduceAdd, Int.reduceSub, lenTk, i_eqlV, Int.reduceBEq, zdu, bdT_00, st_Tt, stT_6, b4, ct, c3]
        exact finish_T2 _ _ _ _ _ (intT (us.length : Int)) _ _ _ _ _ (by simp only [zfr, ↓reduceIte, Nat.reduceEqDiff]; try rfl) (by simp only [zfr, ↓reduceIte, Nat.reduceEqDiff]; try rfl) (by simp only [zfr, ↓reduceIte, Nat.reduceEqDiff]; try rfl) rfl
    have p1 : (op == 1) = false := beq_eq_false_iff_ne.mpr o1
    have p2 : (op == 2) = false := beq_eq_false_iff_ne.mpr o2
    have p3 : (op == 3) = false := beq_eq_false_iff_ne.mpr o3
    have p4 : (op == 4) = false := beq_eq_false_iff_ne.mpr o4
    have p5 : (op == 5) = false := beq_eq_false_iff_ne.mpr o5
    rw [one_no intT op (.mk k n1 lg l s1 i1 kg ks) (by omega) (by omega) (by omega) (.inl o5)]
    simp only [simB, zbo, Nat.reduceBEq, own0, ↓reduceIte, Nat.reduceEqDiff, Nat.reduceAdd, simA, simL, simN, Nat.zero_add, zex, List.toList_toArray, len9, ix9, zey, zez, zfa, zfb, zfc, zeroT, encT, cellsT, ldT_a, ldT_0, ldT_2, ldT_4, faT_0, faT_2, faT_4, Nat.reduceAdd, Int.reduceSub, lenTk, i_eqlV, Int.reduceBEq, zdu, bdT_00, st_Tt, stT_6, b4, p1, p2, p3, p4, p5]
    exact finish_T2 _ _ _ _ _ T0 _ _ _ _ _ (by simp only [zfr, ↓reduceIte, Nat.reduceEqDiff]; try rfl) (by simp only [zfr, ↓reduceIte, Nat.reduceEqDiff]; try rfl) (by simp only [zfr, ↓reduceIte, Nat.reduceEqDiff]; try rfl) rfl
end Go.Ab

/- bif.Two, relictref19.Two. Conditions: limbs in range. -/
namespace Go.Ab
open Go.Proofs
set_option maxRecDepth 100000
set_option linter.unusedSimpArgs false

theorem ldT_4W (t k : Nat) (k' : Int) (b : Bool) (lg : Gk) (l : List Nat) (s : List UInt8) (m : Int) (kg : Gk) (ks : List T) : ldE Tryz.prog 22 ⟨t, .buf (cellsT (.mk k' b lg l s m kg ks))⟩ k 5 = if t = k then some (.sl (cellsK ks) ks.length (gr kg)) else none := ldT_4 _ _ _ _ _ _ _ _
def zOfT (t : T) : Int := numZ (sgnT t) (limT t)
def PlaceP (a b : T) : Prop := kindT a = 1 ∧ kindT b = 5 ∧ isI64 (zOfT a) = true ∧ 1 ≤ zOfT a ∧ zOfT a ≤ (kidsT b).length
theorem i_subW (P : Program) (t : TypeId) (a : Int) : binA P .sub t (.int .i64 a) (.int .i64 1) = some (.int .i64 (IntKind.i64.wrap (a - 1))) := rfl
theorem intZ_yesW {z : Int} (h : isI64 z = true) : intZ z = .tup [.int .i64 z, .bool true] := if_pos h
theorem intZ_noW {z : Int} (h : isI64 z = false) : intZ z = .tup [.int .i64 0, .bool false] := if_neg (by rw [h]; decide)
theorem isI64_W {z : Int} (h : isI64 z = true) : I64 z := by
  unfold isI64 at h
  rw [Bool.and_eq_true, decide_eq_true_eq, decide_eq_true_eq] at h
  exact ⟨h.1, by have := h.2; omega⟩
set_option maxHeartbeats 16000000 in
theorem placeA_eq (R d : Nat) (hR : 100000 ≤ R) (a b : T) (la : Limbs (limT a)) : ∃ w : Int, (PlaceP a b → w = zOfT a - 1) ∧ (∀ ok, (ok = true ↔ PlaceP a b) → evalFn Tryz.prog cfg0 R (d+4) 56 [.tree (encT a), .tree (encT b)] = some (.tree (.tup [.int .i64 w, .bool ok]), [[], []])) := by
  have c0 := fun D st => cInt R d hR (isN_A (sgnT a) (lgT' a) (limT a) la) D st
  have ez : numZ (sgnT a) (limT a) = zOfT a := rfl
  rw [ez] at c0
  obtain ⟨z, hz⟩ : ∃ z, zOfT a = z := ⟨_, rfl⟩
  unfold PlaceP
  rw [hz] at c0 ⊢
  clear ez hz
  obtain ⟨k, b1, lg, l, s, m, kg, ks⟩ := a
  obtain ⟨k', b2, lg', l', s', m', kg', ks'⟩ := b
  simp only [sgnT, limT, lgT', encA] at c0
  simp only [kindT, kidsT]
  by_cases h1 : k = 1
  rotate_left
  · refine ⟨0, fun h => absurd h.1 h1, fun ok hok => ?_⟩
    have : ok = false := by
      cases ok with
      | false => rfl
      | true => exact absurd (hok.1 rfl).1 h1
    subst this
    have w1 : (k != 1) = true := bne_iff_ne.mpr h1
    rw [evalFn_go _ Tryz.func56 (by unfold Tryz.f56; rfl) (by unfold Tryz.f56; decide) (Nat.le_of_ble_eq_true (by unfold Tryz.f56; rfl)) (by kernel_rfl)]
    simp only [simB, zbo, Nat.reduceBEq, own0, ↓reduceIte, Nat.reduceEqDiff, Nat.reduceAdd, simA, simL, simN, Nat.zero_add, encT, cellsT, ldT_0, faT_0, i_neqV, w1]
    exact finish_ib _ _ _ _ _ _ _ _ _ (by simp only [zfr, ↓reduceIte, Nat.reduceEqDiff]; try rfl) (by simp only [zfr, ↓reduceIte, Nat.reduceEqDiff]; try rfl) rfl
  have w1 : (k != 1) = false := by rw [h1]; rfl
  by_cases h2 : k' = 5
  rotate_left
  · refine ⟨0, fun h => absurd h.2.1 h2, fun ok hok => ?_⟩
    have : ok = false := by
      cases ok with
      | false => rfl
      | true => exact absurd (hok.1 rfl).2.1 h2
    subst this
    have w2 : (k' != 5) = true := bne_iff_ne.mpr h2
    rw [evalFn_go _ Tryz.func56 (by unfold Tryz.f56; rfl) (by unfold Tryz.f56; decide) (Nat.le_of_ble_eq_true (by unfold Tryz.f56; rfl)) (by kernel_rfl)]
    simp only [simB, zbo, Nat.reduceBEq, own0, ↓reduceIte, Nat.reduceEqDiff, Nat.reduceAdd, simA, simL, simN, Nat.zero_add, encT, cellsT, ldT_0, faT_0, i_neqV, w1, w2]
    exact finish_ib _ _ _ _ _ _ _ _ _ (by simp only [zfr, ↓reduceIte, Nat.reduceEqDiff]; try rfl) (by simp only [zfr, ↓reduceIte, Nat.reduceEqDiff]; try rfl) rfl
  have w2 : (k' != 5) = false := by rw [h2]; rfl
  cases h3 : isI64 z with
  | false =>
    rw [intZ_noW h3] at c0
    refine ⟨IntKind.i64.wrap (0 - 1), fun h => (by cases h.2.2.1), fun ok hok => ?_⟩
    have : ok = false := by
      cases ok with
      | false => rfl
      | true => exact absurd (hok.1 rfl).2.2.1 (by decide)
    subst this
    rw [evalFn_go _ Tryz.func56 (by unfold Tryz.f56; rfl) (by unfold Tryz.f56; decide) (Nat.le_of_ble_eq_true (by unfold Tryz.f56; rfl)) (by kernel_rfl)]
    simp only [simB, zbo, Nat.reduceBEq, own0, ↓reduceIte, Nat.reduceEqDiff, Nat.reduceAdd, simA, simL, simN, Nat.zero_add, encT, cellsT, ldT_0, ldT_1, faT_0, faT_1, Nat.reduceAdd, i_neqV, w1, w2, c0, zdu, i_subW]
    exact finish_ib _ _ _ _ _ _ _ _ _ (by simp only [zfr, ↓reduceIte, Nat.reduceEqDiff]; try rfl) (by simp only [zfr, ↓reduceIte, Nat.reduceEqDiff]; try rfl) rfl
  | true =>
    rw [intZ_yesW h3] at c0
    by_cases h4 : z ≥ 1
    rotate_left
    · refine ⟨IntKind.i64.wrap (z - 1), fun h => absurd h.2.2.2.1 h4, fun ok hok => ?_⟩
      have : ok = false := by
        cases ok with
        | false => rfl
        | true => exact absurd (hok.1 rfl).2.2.2.1 h4
      subst this
      rw [evalFn_go _ Tryz.func56 (by unfold Tryz.f56; rfl) (by unfold Tryz.f56; decide) (Nat.le_of_ble_eq_true (by unfold Tryz.f56; rfl)) (by kernel_rfl)]
      simp only [simB, zbo, Nat.reduceBEq, own0, ↓reduceIte, Nat.reduceEqDiff, Nat.reduceAdd, simA, simL, simN, Nat.zero_add, encT, cellsT, ldT_0, ldT_1, faT_0, faT_1, Nat.reduceAdd, i_neqV, w1, w2, c0, zdu, i_subW, h4]
      exact finish_ib _ _ _ _ _ _ _ _ _ (by simp only [zfr, ↓reduceIte, Nat.reduceEqDiff]; try rfl) (by simp only [zfr, ↓reduceIte, Nat.reduceEqDiff]; try rfl) rfl
    have hz := isI64_W h3
    have f5 := i_sub Tryz.prog 3 z 1 (by omega) (by have := hz.2; omega)
    refine ⟨z - 1, fun _ => rfl, fun ok hok => ?_⟩
    by_cases h5 : z ≤ (ks'.length : Int)
    · have : ok = true := hok.2 ⟨h1, h2, rfl, h4, h5⟩
      subst this
      rw [evalFn_go _ Tryz.func56 (by unfold Tryz.f56; rfl) (by unfold Tryz.f56; decide) (Nat.le_of_ble_eq_true (by unfold Tryz.f56; rfl)) (by kernel_rfl)]
      simp only [simB, zbo, Nat.reduceBEq, own0, ↓reduceIte, Nat.reduceEqDiff, Nat.reduceAdd, simA, simL, simN, Nat.zero_add, encT, cellsT, ldT_0, ldT_1, ldT_4, faT_0, faT_1, faT_4, Nat.reduceAdd, i_neqV, w1, w2, c0, zdu, f5, h4, lenTk, h5]
      exact finish_ib _ _ _ _ _ _ _ _ _ (by simp only [zfr, ↓reduceIte, Nat.reduceEqDiff]; try rfl) (by simp only [zfr, ↓reduceIte, Nat.reduceEqDiff]; try rfl) rfl
    · have : ok = false := by
        cases ok with
        | false => rfl
        | true => exact absurd (hok.1 rfl).2.2.2.2 h5
      subst this
      rw [evalFn_go _ Tryz.func56 (by unfold Tryz.f56; rfl) (by unfold Tryz.f56; decide) (Nat.le_of_ble_eq_true (by unfold Tryz.f56; rfl)) (by kernel_rfl)]
      simp only [simB, zbo, Nat.reduceBEq, own0, ↓reduceIte, Nat.reduceEqDiff, Nat.reduceAdd, simA, simL, simN, Nat.zero_add, encT, cellsT, ldT_0, ldT_1, ldT_4, faT_0, faT_1, faT_4, Nat.reduceAdd, i_neqV, w1, w2, c0, zdu, f5, h4, lenTk, h5]
      exact finish_ib _ _ _ _ _ _ _ _ _ (by simp only [zfr, ↓reduceIte, Nat.reduceEqDiff]; try rfl) (by simp only [zfr, ↓reduceIte, Nat.reduceEqDiff]; try rfl) rfl
set_option maxHeartbeats 16000000 in
theorem rplaceA_eq (R d : Nat) (hR : 100000 ≤ R) (a b : T) (la : Limbs (limT a)) (w : Int) (hw1 : PlaceP a b → w = zOfT a - 1) (hw2 : ¬ PlaceP a b → w = -1) : evalFn Tryz.prog cfg0 R (d+4) 57 [.tree (encT a), .tree (encT b)] = some (.tree (.int .i64 w), [[], []]) := by
  have c0 := fun D st => cRint R d hR (isN_A (sgnT a) (lgT' a) (limT a) la) D st
  have ez : numZ (sgnT a) (limT a) = zOfT a := rfl
  rw [ez] at c0
  obtain ⟨z, hz⟩ : ∃ z, zOfT a = z := ⟨_, rfl⟩
  unfold PlaceP at hw1 hw2
  rw [hz] at c0 hw1 hw2
  clear ez hz
  obtain ⟨k, b1, lg, l, s, m, kg, ks⟩ := a
  obtain ⟨k', b2, lg', l', s', m', kg', ks'⟩ := b
  simp only [sgnT, limT, lgT', encA] at c0
  simp only [kindT, kidsT] at hw1 hw2
  rw [evalFn_go _ Tryz.func57 (by unfold Tryz.f57; rfl) (by unfold Tryz.f57; decide) (Nat.le_of_ble_eq_true (by unfold Tryz.f57; rfl)) (by kernel_rfl)]
  by_cases h1 : k = 1
  rotate_left
  · have w1 : (k != 1) = true := bne_iff_ne.mpr h1
    rw [hw2 (fun h => h1 h.1)]
    cases h3 : isI64 z with
    | false =>
      rw [intZ_noW h3] at c0
      simp only [simB, zbo, Nat.reduceBEq, own0, ↓reduceIte, Nat.reduceEqDiff, Nat.reduceAdd, simA, simL, simN, Nat.zero_add, encT, cellsT, ldT_0, ldT_1, faT_0, faT_1, Nat.reduceAdd, c0, zdu, i_neqV, w1]
      exact finish_i _ _ _ _ _ _ _ (by simp only [zfr, ↓reduceIte, Nat.reduceEqDiff]; try rfl) rfl
    | true =>
      rw [intZ_yesW h3] at c0
      simp only [simB, zbo, Nat.reduceBEq, own0, ↓reduceIte, Nat.reduceEqDiff, Nat.reduceAdd, simA, simL, simN, Nat.zero_add, encT, cellsT, ldT_0, ldT_1, faT_0, faT_1, Nat.reduceAdd, c0, zdu, i_neqV, w1]
      exact finish_i _ _ _ _ _ _ _ (by simp only [zfr, ↓reduceIte, Nat.reduceEqDiff]; try rfl) rfl
  have w1 : (k != 1) = false := by rw [h1]; rfl
  by_cases h2 : k' = 5
  rotate_left
  · have w2 : (k' != 5) = true := bne_iff_ne.mpr h2
    rw [hw2 (fun h => h2 h.2.1)]
    cases h3 : isI64 z with
    | false =>
      rw [intZ_noW h3] at c0
      simp only [simB, zbo, Nat.reduceBEq, own0, ↓reduceIte, Nat.reduceEqDiff, Nat.reduceAdd, simA, simL, simN, Nat.zero_add, encT, cellsT, ldT_0, ldT_1, faT_0, faT_1, Nat.reduceAdd, c0, zdu, i_neqV, w1, w2]
      exact finish_i _ _ _ _ _ _ _ (by simp only [zfr, ↓reduceIte, Nat.reduceEqDiff]; try rfl) rfl
    | true =>
      rw [intZ_yesW h3] at c0
      simp only [simB, zbo, Nat.reduceBEq, own0, ↓reduceIte, Nat.reduceEqDiff, Nat.reduceAdd, simA, simL, simN, Nat.zero_add, encT, cellsT, ldT_0, ldT_1, faT_0, faT_1, Nat.reduceAdd, c0, zdu, i_neqV, w1, w2]
      exact finish_i _ _ _ _ _ _ _ (by simp only [zfr, ↓reduceIte, Nat.reduceEqDiff]; try rfl) rfl
  have w2 : (k' != 5) = false := by rw [h2]; rfl
  cases h3 : isI64 z with
  | false =>
    rw [intZ_noW h3] at c0
    rw [hw2 (fun h => by have := h.2.2.1; rw [h3] at this; cases this)]
    simp only [simB, zbo, Nat.reduceBEq, own0, ↓reduceIte, Nat.reduceEqDiff, Nat.reduceAdd, simA, simL, simN, Nat.zero_add, encT, cellsT, ldT_0, ldT_1, faT_0, faT_1, Nat.reduceAdd, c0, zdu, i_neqV, w1, w2, unA_not', Bool.not_false]
    exact finish_i _ _ _ _ _ _ _ (by simp only [zfr, ↓reduceIte, Nat.reduceEqDiff]; try rfl) rfl
  | true =>
    rw [intZ_yesW h3] at c0
    by_cases h4 : z < 1
    · rw [hw2 (fun h => by have := h.2.2.2.1; omega)]
      simp only [simB, zbo, Nat.reduceBEq, own0, ↓reduceIte, Nat.reduceEqDiff, Nat.reduceAdd, simA, simL, simN, Nat.zero_add, encT, cellsT, ldT_0, ldT_1, faT_0, faT_1, Nat.reduceAdd, c0, zdu, i_neqV, w1, w2, unA_not', Bool.not_true, h4]
      exact finish_i _ _ _ _ _ _ _ (by simp only [zfr, ↓reduceIte, Nat.reduceEqDiff]; try rfl) rfl
    by_cases h5 : z > (ks'.length : Int)
    · rw [hw2 (fun h => by have := h.2.2.2.2; omega)]
      simp only [simB, zbo, Nat.reduceBEq, own0, ↓reduceIte, Nat.reduceEqDiff, Nat.reduceAdd, simA, simL, simN, Nat.zero_add, encT, cellsT, ldT_0, ldT_1, ldT_4, faT_0, faT_1, faT_4, Nat.reduceAdd, c0, zdu, i_neqV, w1, w2, unA_not', Bool.not_true, h4, lenTk, h5]
      exact finish_i _ _ _ _ _ _ _ (by simp only [zfr, ↓reduceIte, Nat.reduceEqDiff]; try rfl) rfl
    have hz := isI64_W h3
    have f5 := i_sub Tryz.prog 3 z 1 (by omega) (by have := hz.2; omega)
    rw [hw1 ⟨h1, h2, h3, by omega, by omega⟩]
    simp only [simB, zbo, Nat.reduceBEq, own0, ↓reduceIte, Nat.reduceEqDiff, Nat.reduceAdd, simA, simL, simN, Nat.zero_add, encT, cellsT, ldT_0, ldT_1, ldT_4, faT_0, faT_1, faT_4, Nat.reduceAdd, c0, zdu, i_neqV, w1, w2, unA_not', Bool.not_true, h4, lenTk, h5, f5]
    exact finish_i _ _ _ _ _ _ _ (by simp only [zfr, ↓reduceIte, Nat.reduceEqDiff]; try rfl) rfl
instance (a b : T) : Decidable (PlaceP a b) := by unfold PlaceP; infer_instance
def twoT (op : Int) (a b : T) : T × Bool := if op = 1 ∧ PlaceP a b then ((kidsT b).getD ((zOfT a).toNat - 1) T0, true) else (T0, false)
theorem two_yes (op : Int) (a b : T) (h : op = 1 ∧ PlaceP a b) : twoT op a b = ((kidsT b).getD ((zOfT a).toNat - 1) T0, true) := if_pos h
theorem two_no (op : Int) (a b : T) (h : ¬ (op = 1 ∧ PlaceP a b)) : twoT op a b = (T0, false) := if_neg h
theorem bare_two (op : Int) (a b a' b' : T) (ha : bareT a = bareT a') (hb : bareT b = bareT b') : bareT (twoT op a b).1 = bareT (twoT op a' b').1 ∧ (twoT op a b).2 = (twoT op a' b').2 := by
  have e1 : kindT a = kindT a' ∧ zOfT a = zOfT a' := by
    obtain ⟨k, b, lg, l, s, m, kg, ks⟩ := a
    obtain ⟨k', b', lg', l', s', m', kg', ks'⟩ := a'
    simp only [bareT, T.mk.injEq, true_and] at ha
    obtain ⟨rfl, rfl, rfl, _⟩ := ha
    exact ⟨rfl, rfl⟩
  have e2 : kindT b = kindT b' ∧ bareK (kidsT b) = bareK (kidsT b') := by
    obtain ⟨k, b1, lg, l, s, m, kg, ks⟩ := b
    obtain ⟨k', b1', lg', l', s', m', kg', ks'⟩ := b'
    simp only [bareT, T.mk.injEq, true_and] at hb
    exact ⟨hb.1, hb.2.2.2.2.2⟩
  have hl : (kidsT b).length = (kidsT b').length := by have := congrArg List.length e2.2; rwa [bareK_len, bareK_len] at this
  have hP : PlaceP a b ↔ PlaceP a' b' := by unfold PlaceP; rw [e1.1, e1.2, e2.1, hl]
  by_cases h : op = 1 ∧ PlaceP a b
  · rw [two_yes _ _ _ h, two_yes _ _ _ ⟨h.1, hP.1 h.2⟩, e1.2]
    exact ⟨bare_oneK _ _ _ e2.2, rfl⟩
  · rw [two_no _ _ _ h, two_no _ _ _ (fun h' => h ⟨h'.1, hP.2 h'.2⟩)]
    exact ⟨rfl, rfl⟩
theorem place_drop (a b : T) (h : PlaceP a b) : (zOfT a).toNat - 1 < (kidsT b).length ∧ (((zOfT a).toNat - 1 : Nat) : Int) = zOfT a - 1 ∧ (kidsT b).drop ((zOfT a).toNat - 1) = (kidsT b).getD ((zOfT a).toNat - 1) T0 :: (kidsT b).drop ((zOfT a).toNat - 1 + 1) := by
  obtain ⟨_, _, _, h4, h5⟩ := h
  have hi : (zOfT a).toNat - 1 < (kidsT b).length := by omega
  refine ⟨hi, by omega, ?_⟩
  rw [List.drop_eq_getElem_cons hi, List.getD_eq_getElem?_getD, List.getElem?_eq_getElem hi, Option.getD_some]
set_option maxHeartbeats 16000000 in
theorem twoA_eq (R d : Nat) (hR : 100000 ≤ R) (op : Int) (a b : T) (la : Limbs (limT a)) : evalFn Tryz.prog cfg0 R (d+5) 25 [.tree (.int .i64 op), .tree (encT a), .tree (encT b)] = some (.tree (.tup [encT (twoT op a b).1, .bool (twoT op a b).2]), [[], [], []]) := by
  obtain ⟨w, hw, hpl⟩ := placeA_eq R d hR a b la
  by_cases hP : PlaceP a b
  rotate_left
  · have c1 := fun D st => callA_trees (cfg := cfg0) (d := D) (s := st) (f := 56) (vs := [encT a, encT b]) rfl (hpl false ⟨(fun h => by cases h), fun h => absurd h hP⟩)
    rw [two_no _ _ _ (fun h => hP h.2)]
    rw [evalFn_go _ Tryz.func25 (by unfold Tryz.f25; rfl) (by unfold Tryz.f25; decide) (Nat.le_of_ble_eq_true (by unfold Tryz.f25; rfl)) (by kernel_rfl)]
    simp only [encT] at c1
    simp only [simB, zbo, Nat.reduceBEq, own0, ↓reduceIte, Nat.reduceEqDiff, Nat.reduceAdd, simA, simL, simN, Nat.zero_add, encT, zeroT, ldT_u, c1, zdu, bdT_00, st_Tt, stT_6]
    exact finish_T2 _ _ _ _ _ T0 _ _ _ _ _ (by simp only [zfr, ↓reduceIte, Nat.reduceEqDiff]; try rfl) (by simp only [zfr, ↓reduceIte, Nat.reduceEqDiff]; try rfl) (by simp only [zfr, ↓reduceIte, Nat.reduceEqDiff]; try rfl) rfl
  have c1 := fun D st => callA_trees (cfg := cfg0) (d := D) (s := st) (f := 56) (vs := [encT a, encT b]) rfl (hpl true ⟨fun _ => hP, fun _ => rfl⟩)
  obtain ⟨q1, q2, q3⟩ := place_drop a b hP
  rw [hw hP, ← q2] at c1
  by_cases ho : op = 1
  rotate_left
  · have w1 : (op == 1) = false := beq_eq_false_iff_ne.mpr ho
    rw [two_no _ _ _ (fun h => ho h.1)]
    rw [evalFn_go _ Tryz.func25 (by unfold Tryz.f25; rfl) (by unfold Tryz.f25; decide) (Nat.le_of_ble_eq_true (by unfold Tryz.f25; rfl)) (by kernel_rfl)]
    simp only [encT] at c1
    simp only [simB, zbo, Nat.reduceBEq, own0, ↓reduceIte, Nat.reduceEqDiff, Nat.reduceAdd, simA, simL, simN, Nat.zero_add, encT, zeroT, ldT_u, c1, zdu, i_eqlV, w1, bdT_00, st_Tt, stT_6]
    exact finish_T2 _ _ _ _ _ T0 _ _ _ _ _ (by simp only [zfr, ↓reduceIte, Nat.reduceEqDiff]; try rfl) (by simp only [zfr, ↓reduceIte, Nat.reduceEqDiff]; try rfl) (by simp only [zfr, ↓reduceIte, Nat.reduceEqDiff]; try rfl) rfl
  subst ho
  rw [two_yes _ _ _ ⟨rfl, hP⟩]
  obtain ⟨x, hx⟩ : ∃ x, (kidsT b).getD ((zOfT a).toNat - 1) T0 = x := ⟨_, rfl⟩
  obtain ⟨i, hi⟩ : ∃ i, (zOfT a).toNat - 1 = i := ⟨_, rfl⟩
  rw [hx, hi] at q3
  rw [hi] at q1 c1
  rw [hx]
  clear hx hi q2 hpl hw hP
  obtain ⟨k', b2, lg', l', s', m', kg', ks'⟩ := b
  simp only [kidsT] at q1 q3
  have i0 := fun st => ia_K st ks' (gr kg') i q1
  rw [q3] at i0
  have l0 := fun st => ld_KW st x (ks'.drop (i + 1))
  rw [evalFn_go _ Tryz.func25 (by unfold Tryz.f25; rfl) (by unfold Tryz.f25; decide) (Nat.le_of_ble_eq_true (by unfold Tryz.f25; rfl)) (by kernel_rfl)]
  simp only [encT] at c1
  have lt := fun t k => ldT_4W t k k' b2 lg' l' s' m' kg' ks'
  simp only [simB, zbo, Nat.reduceBEq, own0, ↓reduceIte, Nat.reduceEqDiff, Nat.reduceAdd, simA, simL, simN, Nat.zero_add, encT, zeroT, ldT_u, c1, zdu, i_eqlV, Int.reduceBEq, faT_4, Nat.reduceAdd, lt, i0, l0, st_Tt, stT_6]
  exact finish_T2 _ _ _ _ _ x _ _ _ _ _ (by simp only [zfr, ↓reduceIte, Nat.reduceEqDiff]; try rfl) (by simp only [zfr, ↓reduceIte, Nat.reduceEqDiff]; try rfl) (by simp only [zfr, ↓reduceIte, Nat.reduceEqDiff]; try rfl) rfl
set_option maxHeartbeats 16000000 in
theorem rtwoA_eq (R d : Nat) (hR : 100000 ≤ R) (op : Int) (a b : T) (la : Limbs (limT a)) : evalFn Tryz.prog cfg0 R (d+5) 26 [.tree (.int .i64 op), .tree (encT a), .tree (encT b)] = some (.tree (.tup [encT (twoT op a b).1, .bool (twoT op a b).2]), [[], [], []]) := by
  by_cases hP : PlaceP a b
  rotate_left
  · have c1 := fun D st => callA_trees (cfg := cfg0) (d := D) (s := st) (f := 57) (vs := [encT a, encT b]) rfl (rplaceA_eq R d hR a b la (-1) (fun h => absurd h hP) (fun _ => rfl))
    rw [two_no _ _ _ (fun h => hP h.2)]
    have w2 : ((-1 : Int) < 0) := by decide
    rw [evalFn_go _ Tryz.func26 (by unfold Tryz.f26; rfl) (by unfold Tryz.f26; decide) (Nat.le_of_ble_eq_true (by unfold Tryz.f26; rfl)) (by kernel_rfl)]
    simp only [encT] at c1
    by_cases ho : op = 1
    · have w1 : (op != 1) = false := by rw [ho]; rfl
      simp only [simB, zbo, Nat.reduceBEq, own0, ↓reduceIte, Nat.reduceEqDiff, Nat.reduceAdd, simA, simL, simN, Nat.zero_add, encT, zeroT, ldT_u, c1, i_neqV, w1, w2, bdT_00, st_Tt, stT_6]
      exact finish_T2 _ _ _ _ _ T0 _ _ _ _ _ (by simp only [zfr, ↓reduceIte, Nat.reduceEqDiff]; try rfl) (by simp only [zfr, ↓reduceIte, Nat.reduceEqDiff]; try rfl) (by simp only [zfr, ↓reduceIte, Nat.reduceEqDiff]; try rfl) rfl
    · have w1 : (op != 1) = true := bne_iff_ne.mpr ho
      simp only [simB, zbo, Nat.reduceBEq, own0, ↓reduceIte, Nat.reduceEqDiff, Nat.reduceAdd, simA, simL, simN, Nat.zero_add, encT, zeroT, ldT_u, c1, i_neqV, w1, bdT_00, st_Tt, stT_6]
      exact finish_T2 _ _ _ _ _ T0 _ _ _ _ _ (by simp only [zfr, ↓reduceIte, Nat.reduceEqDiff]; try rfl) (by simp only [zfr, ↓reduceIte, Nat.reduceEqDiff]; try rfl) (by simp only [zfr, ↓reduceIte, Nat.reduceEqDiff]; try rfl) rfl
  have c1 := fun D st => callA_trees (cfg := cfg0) (d := D) (s := st) (f := 57) (vs := [encT a, encT b]) rfl (rplaceA_eq R d hR a b la (zOfT a - 1) (fun _ => rfl) (fun h => absurd hP h))
  obtain ⟨q1, q2, q3⟩ := place_drop a b hP
  rw [← q2] at c1
  by_cases ho : op = 1
  rotate_left
  · have w1 : (op != 1) = true := bne_iff_ne.mpr ho
    rw [two_no _ _ _ (fun h => ho h.1)]
    rw [evalFn_go _ Tryz.func26 (by unfold Tryz.f26; rfl) (by unfold Tryz.f26; decide) (Nat.le_of_ble_eq_true (by unfold Tryz.f26; rfl)) (by kernel_rfl)]
    simp only [encT] at c1
    simp only [simB, zbo, Nat.reduceBEq, own0, ↓reduceIte, Nat.reduceEqDiff, Nat.reduceAdd, simA, simL, simN, Nat.zero_add, encT, zeroT, ldT_u, c1, i_neqV, w1, bdT_00, st_Tt, stT_6]
    exact finish_T2 _ _ _ _ _ T0 _ _ _ _ _ (by simp only [zfr, ↓reduceIte, Nat.reduceEqDiff]; try rfl) (by simp only [zfr, ↓reduceIte, Nat.reduceEqDiff]; try rfl) (by simp only [zfr, ↓reduceIte, Nat.reduceEqDiff]; try rfl) rfl
  subst ho
  rw [two_yes _ _ _ ⟨rfl, hP⟩]
  obtain ⟨x, hx⟩ : ∃ x, (kidsT b).getD ((zOfT a).toNat - 1) T0 = x := ⟨_, rfl⟩
  obtain ⟨i, hi⟩ : ∃ i, (zOfT a).toNat - 1 = i := ⟨_, rfl⟩
  rw [hx, hi] at q3
  rw [hi] at q1 c1
  rw [hx]
  clear hx hi q2 hP
  obtain ⟨k', b2, lg', l', s', m', kg', ks'⟩ := b
  simp only [kidsT] at q1 q3
  have i0 := fun st => ia_K st ks' (gr kg') i q1
  rw [q3] at i0
  have l0 := fun st => ld_KW st x (ks'.drop (i + 1))
  have w1 : ((1 : Int) != 1) = false := rfl
  have w2 : ¬ ((i : Int) < 0) := by omega
  rw [evalFn_go _ Tryz.func26 (by unfold Tryz.f26; rfl) (by unfold Tryz.f26; decide) (Nat.le_of_ble_eq_true (by unfold Tryz.f26; rfl)) (by kernel_rfl)]
  simp only [encT] at c1
  have lt := fun t k => ldT_4W t k k' b2 lg' l' s' m' kg' ks'
  simp only [simB, zbo, Nat.reduceBEq, own0, ↓reduceIte, Nat.reduceEqDiff, Nat.reduceAdd, simA, simL, simN, Nat.zero_add, encT, zeroT, ldT_u, c1, i_neqV, w1, w2, faT_4, Nat.reduceAdd, lt, i0, l0, st_Tt, stT_6]
  exact finish_T2 _ _ _ _ _ x _ _ _ _ _ (by simp only [zfr, ↓reduceIte, Nat.reduceEqDiff]; try rfl) (by simp only [zfr, ↓reduceIte, Nat.reduceEqDiff]; try rfl) (by simp only [zfr, ↓reduceIte, Nat.reduceEqDiff]; try rfl) rfl
end Go.Ab

/- bif.Make, relictref19.Make. Conditions: lengths in range. -/
namespace Go.Ab
open Go.Proofs
set_option maxRecDepth 100000
set_option linter.unusedSimpArgs false

end Go.Ab

/- The run of BifAll and BifCalls (CFG4); relictlaw00.Terms. Conditions: lengths in range. -/
namespace Go.Ab
open Go.Proofs
set_option maxRecDepth 100000
set_option linter.unusedSimpArgs false

def run4 (f : FuncId) (_ : List Arg) : Bool := f == 5 || f == 3 || f == 9 || f == 64 || f == 8 || f == 34 || f == 10 || f == 37
noncomputable def prim4 (f : FuncId) (xs : List Arg) : Option Out := match run4 f xs with
  | true => none
  | false => match f == 21 with
    | true => evalFn Tryz.prog cfg3 9223372036854775808 6190 f xs
    | false => evalFn Tryz.prog cfg0 9223372036854775808 6190 f xs
noncomputable def cfg4 : Cfg := ⟨fun _ _ => false, fun f => f == 64, prim4, fun p => p == "slices.go:362" || p == "#bif.go:203" || p == "ref.go:175" || p == "#ref.go:177"⟩
theorem own4 (p : String) : cfg4.ownAt p = (p == "slices.go:362" || p == "#bif.go:203" || p == "ref.go:175" || p == "#ref.go:177") := rfl
theorem keep4 (f : FuncId) : cfg4.keep f = (f == 64) := rfl
theorem ev4 {n d : Nat} {f : FuncId} {xs : List Arg} {o : Out} (h1 : run4 f xs = false) (h2 : (f == 21) = false) (h : evalFn Tryz.prog cfg0 9223372036854775808 6190 f xs = some o) : evalFn Tryz.prog cfg4 n (d+1) f xs = some o := by
  have hc : cfg4.prim = prim4 := rfl
  have hp : prim4 f xs = some o := by unfold prim4; rw [h1]; dsimp only; rw [h2]; exact h
  rw [evalFn]
  simp only [hc, hp]
theorem term4_eq (n d : Nat) (t : T) (h : htT t ≤ 6189) (hf : fewT 100000 t) : evalFn Tryz.prog cfg4 n (d+1) 21 [.tree (encT t)] = some (.tree (encT (copyT t)), [[]]) := by
  have hc : cfg4.prim = prim4 := rfl
  have hp : prim4 21 [.tree (encT t)] = some (.tree (encT (copyT t)), [[]]) := term3_eq 9223372036854775808 (by decide) 6189 t h hf
  rw [evalFn]
  simp only [hc, hp]
theorem finish_KtW (k : Bool) (xs : List Arg) (t d : Nat) (x : AV) (us : List T) (env : Env) (s : St) (os : List (List AV)) (hk : k = false) (hv : env t = x) (hA : Ap s d x us) (ho : outsA s 0 xs = some os) :
    finishP Tryz.prog k xs #[.tmp t] env s = some (.tree (.sl (cellsK us) us.length (gr (kgOf us))), os) := by
  subst hk
  rw [finishP_t1]
  rcases hA with ⟨rfl, rfl⟩ | ⟨hu, tt, rfl, _⟩
  · simp [finish, finish1, hv, settle, ho, kgOf, gr, cellsK]
  · simp [finish, finish1, hv, ho, kgOf, hu, gr]
theorem one26_c4 (call : FuncId → List Arg → Option Out) (q : Bool) (d : Option Tmp) (ty : TypeId) (pos : String) (af : Array Edge) (g : Option (Nat × Bool)) (t : Nat) (env : Env) (s : St) (x : Operand) :
    opA Tryz.prog cfg4 call q ⟨d, .buildSlice 22 1 #[(0, x)], ty, pos, af, g⟩ t env s = (one26 (ev env x)).map (·, s) := by
  rw [opA_bs]
  simp only [tkTk, eszT, zeroT, Option.bind_some, List.map_cons, List.map_nil]
  rfl
set_option maxHeartbeats 16000000 in
theorem terms4_eq (n d : Nat) (us : List T) (g : Grip) (hn : us.length < n) (hl : us.length ≤ 100000) (hu : ∀ t ∈ us, htT t ≤ 6189 ∧ fewT 100000 t) : evalFn Tryz.prog cfg4 n (d+2) 9 [.tree (.sl (cellsK us) us.length g)] = some (.tree (.sl (cellsK (copyK us)) (copyK us).length (gr (kgOf (copyK us)))), [[]]) := by
  rw [copyK_map]
  rw [evalFn_go _ Tryz.func9 (by unfold Tryz.f9; rfl) (by unfold Tryz.f9; decide) (Nat.le_of_ble_eq_true (by unfold Tryz.f9; rfl)) (by kernel_rfl)]
  simp only [simB, keep4, Nat.reduceBEq, own4, String.reduceAppend, String.reduceBEq, Bool.or_false, Bool.or_true, Bool.or_self, ↓reduceIte, Nat.reduceEqDiff, Nat.reduceAdd, simA, simL, simN, Nat.zero_add, den_loop]
  refine loop_ends (X := Nat) (fun i env s => env 0 = .sl (cellsK us) us.length g ∧ env 4 = .int .i64 (i : Int) ∧ Ap s 18 (env 3) ((us.take i).map copyT) ∧ i ≤ us.length) (fun i => us.length - i) (fun _ => (.tree (.sl (cellsK (us.map copyT)) (us.map copyT).length (gr (kgOf (us.map copyT)))), [[]])) ?_ n 0 _ _ (by omega) ⟨(by simp only [zfr, ↓reduceIte, Nat.reduceEqDiff, env0, List.getElem?_cons_zero]; try rfl), (by simp only [zfr, ↓reduceIte, Nat.reduceEqDiff]; try rfl), .inl ⟨rfl, (by simp only [zfr, ↓reduceIte, Nat.reduceEqDiff]; try rfl)⟩, Nat.zero_le _⟩
  rintro rd i hrd ih env st ⟨e0, e4, ap, hi⟩
  generalize h3 : env 3 = x3 at ap
  cases hdr : us.drop i with
  | nil =>
    have hil : i = us.length := by have := congrArg List.length hdr; simp only [List.length_drop, List.length_nil] at this; omega
    subst hil
    rw [List.take_length] at ap
    have q1 : ¬ ((us.length : Int) < (us.length : Int)) := by omega
    simp only [simB, keep4, Nat.reduceBEq, own4, String.reduceAppend, String.reduceBEq, Bool.or_false, Bool.or_true, Bool.or_self, ↓reduceIte, Nat.reduceEqDiff, Nat.reduceAdd, simL, simN, Nat.zero_add, e0, e4, h3, lenTk, q1]
    exact finish_KtW _ _ _ 18 x3 _ _ _ _ rfl (by simp only [zfr, ↓reduceIte, Nat.reduceEqDiff]; try rfl) ap rfl
  | cons t r =>
    have hil : i < us.length := by have := congrArg List.length hdr; simp only [List.length_drop, List.length_cons] at this; omega
    have q1 : (i : Int) < (us.length : Int) := by omega
    have hx : us[i]? = some t := by rw [← Nat.add_zero i, ← List.getElem?_drop, hdr]; rfl
    obtain ⟨hh, hf⟩ := hu t (List.mem_of_getElem? hx)
    have ck := fun D st => callA_trees (cfg := cfg4) (d := D) (s := st) (f := 21) (vs := [encT t]) rfl (term4_eq n d t hh hf)
    have ia := fun st => ia_K st us g i hil
    rw [hdr] at ia
    have ld := fun st => ld_KW st t r
    have hm : (us.take (i + 1)).map copyT = (us.take i).map copyT ++ [copyT t] := by
      rw [List.take_add_one, hx, List.map_append]; rfl
    have hlen : ((us.take i).map copyT).length ≤ 1000000 := by rw [List.length_map, List.length_take]; omega
    obtain ⟨x', s', a1', a2', a3'⟩ := ap.push hlen (copyT t)
    have f5 := i_add Tryz.prog 3 (i : Int) 1 (by omega) (by omega)
    simp only [encT] at ck
    simp only [simB, keep4, Nat.reduceBEq, own4, String.reduceAppend, String.reduceBEq, Bool.or_false, Bool.or_true, Bool.or_self, ↓reduceIte, Nat.reduceEqDiff, Nat.reduceAdd, simL, simN, Nat.zero_add, e0, e4, h3, lenTk, q1, ia, ld, ck, one26_c4, one26_KU, a1', f5]
    refine ih (i + 1) _ _ (by omega) rfl ⟨(by simp only [zfr, ↓reduceIte, Nat.reduceEqDiff, e0]; try rfl), (by simp only [zfr, ↓reduceIte, Nat.reduceEqDiff]; try rfl), ?_, by omega⟩
    rw [hm]
    rcases a2' with ⟨g1, _⟩ | ⟨g1, tt, g2, g3⟩
    · exact absurd g1 (by simp)
    · exact .inr ⟨g1, tt, (by simp only [zfr, ↓reduceIte, Nat.reduceEqDiff, g2]; try rfl), g3⟩
end Go.Ab
