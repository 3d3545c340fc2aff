/- Several texts put together: AbbD3, AbbJ1, AbbJ2, AbbC1, AbbC2, AbbJ3, AbbC3, AbbC4, AbbJ4, AbbLawBLists. Conditions: as each part says. -/
import Derived.Test.YtpgnjcckmmkmkaaDoorAbBListsZ05
import Derived.Test.YtpgnjcckmmkmkaaDoorAbBListsZ04
/- slices.Reverse of a row that is written (CFG1). Conditions: lengths in range. -/
namespace Go.Ab
open Go.Proofs
set_option maxRecDepth 100000
set_option linter.unusedSimpArgs false

theorem lenO (s : St) (p k off len e : Nat) : lenA Tryd.prog 22 s (.own p k off len e) = if (cellsE (s p) k).isSome = true then some (.int .i64 (len : Int)) else none := by
  simp only [lenA, tkTk, live, cellsAt_E]
theorem iaO (s : St) (p k len : Nat) (kd : IntKind) (i : Int) : indexAddrA Tryd.prog 22 s (.own p k 0 len 6) (.int kd i) = if (cellsE (s p) k).isSome = true ∧ 0 ≤ i ∧ i < len then some (.ptr p k (i.toNat * 6)) else none := by
  simp only [indexAddrA, tkTk, eszT, Option.bind_some, live, cellsAt_E, Nat.zero_add]
theorem ldOK (t k i : Nat) (xs : List T) (x : T) (h : xs[i]? = some x) : ldE Tryd.prog 29 ⟨t, .buf (cellsK xs)⟩ k (i * 6) = if t = k then some (.agg (cellsT x)) else none := by
  obtain ⟨hi, hx⟩ := List.getElem?_eq_some_iff.mp h
  have hc := cellsK_chunk xs i hi
  rw [hx] at hc
  rw [ldE, cellsE_buf]
  by_cases e : t = k
  · rw [if_pos e, if_pos e]
    simp only [Option.bind_some, partA, shT]
    rw [if_pos (by rw [cellsK_len]; omega), hc]
  · rw [if_neg e, if_neg e]; rfl
def stOE (e : Ent) (p k i : Nat) (s : St) (u : T) : Option St :=
  match e with | ⟨t, .buf ys⟩ => if t = k then (if i * 6 + 6 ≤ ys.length then some (upd s p ⟨t, .buf (splice ys (i * 6) (cellsT u))⟩) else none) else none | _ => none
theorem stO (s : St) (p k i : Nat) (u : T) : storeA Tryd.prog 29 s (.ptr p k (i * 6)) (.agg (cellsT u)) = stOE (s p) p k i s u := by
  have hl := cellsT_len u
  simp only [storeA, settle, Option.bind_some, stOE]
  cases h : s p with
  | mk t c => cases c <;> simp [eszT, hl]
theorem stOE_K (t p k i : Nat) (s : St) (u : T) (xs : List T) : stOE ⟨t, .buf (cellsK xs)⟩ p k i s u = if t = k then (if i < xs.length then some (upd s p ⟨t, .buf (cellsK (xs.set i u))⟩) else none) else none := by
  simp only [stOE, cellsK_len]
  by_cases h : i < xs.length
  · rw [if_pos (show i * 6 + 6 ≤ xs.length * 6 by omega), if_pos h, cellsK_put xs i u h]
  · rw [if_neg (show ¬ i * 6 + 6 ≤ xs.length * 6 by omega), if_neg h]
set_option maxHeartbeats 8000000 in
theorem reverse_eq (n d : Nat) (ks : List T) (hn : ks.length + 2 ≤ n) (hl : ks.length ≤ 1000000) : evalFn Tryd.prog cfg1 n (d+1) 54 [.own (cellsK ks) 0 ks.length 6] = some (.tree (.tup []), [cellsK ks.reverse]) := by
  rw [evalFn_go _ Tryd.func54 (by unfold Tryd.f54; rfl) (by unfold Tryd.f54; decide) (Nat.le_of_ble_eq_true (by unfold Tryd.f54; rfl)) (by kernel_rfl)]
  have s0 : st0 [.own (cellsK ks) 0 ks.length 6] 0 = ⟨0, .buf (cellsK ks)⟩ := rfl
  have e0 : env0 [.own (cellsK ks) 0 ks.length 6] 0 = .own 0 0 0 ks.length 6 := rfl
  have f0 := i_sub Tryd.prog 3 (ks.length : Int) 1 (by omega) (by omega)
  simp only [zaa, zab, zac, zad, zae, zaf, zag, zah, zai, zaj, zak, zal, zam, zan, zao, zap, zaq, zar, zas, zat, zau, zav, zaw, zax, zay, zaz, zba, zbb, zbc, zbd, zbe, zbf, zbg, zbh, zbi, zbj, zbk, zbl, zbm, zbn, keep1, zbp, zbq, Nat.reduceBEq, Bool.or_self, Bool.or_false, Bool.or_true, Bool.and_true, Bool.and_false, Bool.true_and, Bool.false_and, Option.isNone_none, Option.isNone_some, Option.isSome_some, Option.isSome_none, zbr, zbs, zbt, zbu, zbv, zbw, zbx, zby, zbz, zca, zcb, zcc, zcd, zce, zcf, zcg, zch, zci, zcj, zck, zcl, zcm, zcn, zco, zcp, zcq, zcr, own1, zcs, zct, zcu, zcv, zcw, zcx, zcy, zcz, zda, zdb, zdc, zdd, zde, zdf, zdg, zdh, zdi, zdj, zdk, zdl, zdm, zdn, zdo, zdp, zdq, zdr, zds, zdt, zdu, Option.getD_some, Option.getD_none, zfb, zfc, zfd, zfe, zff, zfg, zfh, zfi, Option.map_some, Option.map_none, Option.bind_some, List.map_cons, List.map_nil, List.cons_append, List.nil_append, ↓reduceIte, Nat.reduceEqDiff, Nat.reduceAdd, decide_true, decide_false, Bool.true_eq_false, Bool.false_eq_true, zdv, zdw, zdx, zdy, zdz, zea, zeb, zec, ia22, ld31, zed, zee, zef, zeg, zeh, zei, zej, zek, zel, zem, zen, zeo, zep, zeq, zer, fa_0, fa_1, zes, bd_0, bd_2, zet, fd_1, zeu, Nat.zero_add, e0, s0, lenO, cellsE_buf, Option.isSome_some, f0, den_loop]
  refine loop_ends (X := Nat) (fun i env s => env 0 = .own 0 0 0 ks.length 6 ∧ env 2 = .int .i64 (i : Int) ∧ env 3 = .int .i64 ((ks.length : Int) - 1 - i) ∧ (∃ xs, s 0 = ⟨0, .buf (cellsK xs)⟩ ∧ RevN ks i xs) ∧ i ≤ ks.length) (fun i => ks.length - i) (fun _ => (.tree (.tup []), [cellsK ks.reverse])) ?_ n 0 _ _ (by omega) ⟨(by first | (simp only [zfi, ↓reduceIte, Nat.reduceEqDiff, e0]; done) | (simp only [zfi, ↓reduceIte, Nat.reduceEqDiff, e0]; rfl)), (by first | (simp only [zfi, ↓reduceIte, Nat.reduceEqDiff]; done) | (simp only [zfi, ↓reduceIte, Nat.reduceEqDiff]; rfl)), by simp only [Int.natCast_zero, Int.sub_zero]; exact (by first | (simp only [zfi, ↓reduceIte, Nat.reduceEqDiff]; done) | (simp only [zfi, ↓reduceIte, Nat.reduceEqDiff]; rfl)), ⟨ks, (by first | (simp only [zfi, ↓reduceIte, Nat.reduceEqDiff, s0]; done) | (simp only [zfi, ↓reduceIte, Nat.reduceEqDiff, s0]; rfl)), rev_0 ks⟩, Nat.zero_le _⟩
  clear e0 s0
  rintro rr i hr ih env st ⟨e0, e2, e3, ⟨xs, j0, hx⟩, hi⟩
  by_cases hlt : i + 1 + i < ks.length
  · have q1 : (i : Int) < ((ks.length - 1 - i : Nat) : Int) := by omega
    have e3 : env 3 = .int .i64 ((ks.length - 1 - i : Nat) : Int) := by rw [e3]; congr 1; omega
    obtain ⟨a, b, ga, gb, hs⟩ := rev_step hx hlt
    have la := fun t k => ldOK t k i xs a ga
    have lb := fun t k => ldOK t k (ks.length - 1 - i) xs b gb
    have hxl : xs.length = ks.length := hx.1
    have q2 : (0 : Int) ≤ (i : Int) := by omega
    have q3 : (0 : Int) ≤ ((ks.length - 1 - i : Nat) : Int) := by omega
    have q4 : (i : Int) < (ks.length : Int) := by omega
    have q5 : ((ks.length - 1 - i : Nat) : Int) < (ks.length : Int) := by omega
    have q6 : i < xs.length := by omega
    have q7 : ks.length - 1 - i < (xs.set i b).length := by rw [List.length_set]; omega
    have f5 := i_add Tryd.prog 3 (i : Int) 1 (by omega) (by omega)
    have f6 := i_sub Tryd.prog 3 ((ks.length - 1 - i : Nat) : Int) 1 (by omega) (by omega)
    simp only [zaa, zab, zac, zad, zae, zaf, zag, zah, zai, zaj, zak, zal, zam, zan, zao, zap, zaq, zar, zas, zat, zau, zav, zaw, zax, zay, zaz, zba, zbb, zbc, zbd, zbe, zbf, zbg, zbh, zbi, zbj, zbk, zbl, zbm, zbn, keep1, zbp, zbq, Nat.reduceBEq, Bool.or_self, Bool.or_false, Bool.or_true, Bool.and_true, Bool.and_false, Bool.true_and, Bool.false_and, Option.isNone_none, Option.isNone_some, Option.isSome_some, Option.isSome_none, zbr, zbs, zbt, zbu, zbv, zbw, zbx, zby, zbz, zca, zcb, zcc, zcd, zce, zcf, zcg, zch, zci, zcj, zck, zcl, zcm, zcn, zco, zcp, zcq, zcr, own1, zcs, zct, zcu, zcv, zcw, zcx, zcy, zcz, zda, zdb, zdc, zdd, zde, zdf, zdg, zdh, zdi, zdj, zdk, zdl, zdm, zdn, zdo, zdp, zdq, zdr, zds, zdt, zdu, Option.getD_some, Option.getD_none, zfb, zfc, zfd, zfe, zff, zfg, zfh, zfi, Option.map_some, Option.map_none, Option.bind_some, List.map_cons, List.map_nil, List.cons_append, List.nil_append, ↓reduceIte, Nat.reduceEqDiff, Nat.reduceAdd, decide_true, decide_false, Bool.true_eq_false, Bool.false_eq_true, zdv, zdw, zdx, zdy, zdz, zea, zeb, zec, ia22, ld31, zed, zee, zef, zeg, zeh, zei, zej, zek, zel, zem, zen, zeo, zep, zeq, zer, fa_0, fa_1, zes, bd_0, bd_2, zet, fd_1, zeu, Nat.zero_add, e0, e2, e3, j0, q1, iaO, cellsE_buf, Option.isSome_some, q2, q3, q4, q5, and_self, Int.toNat_natCast, la, lb, stO, stOE_K, q6, q7, f5, f6]
    refine ih (i + 1) _ _ (by omega) rfl ⟨(by first | (simp only [zfi, ↓reduceIte, Nat.reduceEqDiff, e0]; done) | (simp only [zfi, ↓reduceIte, Nat.reduceEqDiff, e0]; rfl)), (by first | (simp only [zfi, ↓reduceIte, Nat.reduceEqDiff]; done) | (simp only [zfi, ↓reduceIte, Nat.reduceEqDiff]; rfl)), ?_, ⟨_, (by first | (simp only [zfi, ↓reduceIte, Nat.reduceEqDiff]; done) | (simp only [zfi, ↓reduceIte, Nat.reduceEqDiff]; rfl)), hs⟩, by omega⟩
    have x1 : ((ks.length : Int) - 1 - ((i + 1 : Nat) : Int)) = ((ks.length - 1 - i : Nat) : Int) - 1 := by omega
    rw [x1]; exact (by first | (simp only [zfi, ↓reduceIte, Nat.reduceEqDiff]; done) | (simp only [zfi, ↓reduceIte, Nat.reduceEqDiff]; rfl))
  · have q1 : ¬ (i : Int) < (ks.length : Int) - 1 - (i : Int) := by omega
    have hr := rev_end hx (by omega)
    subst hr
    simp only [zaa, zab, zac, zad, zae, zaf, zag, zah, zai, zaj, zak, zal, zam, zan, zao, zap, zaq, zar, zas, zat, zau, zav, zaw, zax, zay, zaz, zba, zbb, zbc, zbd, zbe, zbf, zbg, zbh, zbi, zbj, zbk, zbl, zbm, zbn, keep1, zbp, zbq, Nat.reduceBEq, Bool.or_self, Bool.or_false, Bool.or_true, Bool.and_true, Bool.and_false, Bool.true_and, Bool.false_and, Option.isNone_none, Option.isNone_some, Option.isSome_some, Option.isSome_none, zbr, zbs, zbt, zbu, zbv, zbw, zbx, zby, zbz, zca, zcb, zcc, zcd, zce, zcf, zcg, zch, zci, zcj, zck, zcl, zcm, zcn, zco, zcp, zcq, zcr, own1, zcs, zct, zcu, zcv, zcw, zcx, zcy, zcz, zda, zdb, zdc, zdd, zde, zdf, zdg, zdh, zdi, zdj, zdk, zdl, zdm, zdn, zdo, zdp, zdq, zdr, zds, zdt, zdu, Option.getD_some, Option.getD_none, zfb, zfc, zfd, zfe, zff, zfg, zfh, zfi, Option.map_some, Option.map_none, Option.bind_some, List.map_cons, List.map_nil, List.cons_append, List.nil_append, ↓reduceIte, Nat.reduceEqDiff, Nat.reduceAdd, decide_true, decide_false, Bool.true_eq_false, Bool.false_eq_true, zdv, zdw, zdx, zdy, zdz, zea, zeb, zec, ia22, ld31, zed, zee, zef, zeg, zeh, zei, zej, zek, zel, zem, zen, zeo, zep, zeq, zer, fa_0, fa_1, zes, bd_0, bd_2, zet, fd_1, zeu, Nat.zero_add, e0, e2, e3, q1]
    simp [finishP, finish, settleL, outsA, j0]
end Go.Ab

/- The terms of a list, that stay writable (CFG1): term.Items. Conditions: lengths in range. -/
namespace Go.Ab
open Go.Proofs
set_option maxRecDepth 100000
set_option linter.unusedSimpArgs false

theorem opA_bs1c (call : FuncId → List Arg → Option Out) (q : Bool) (d : Option Tmp) (ty : TypeId) (pos : String) (af : Array Edge) (g : Option (Nat × Bool)) (t : Nat) (env : Env) (s : St) (x : Operand) (e : T) (hx : ev env x = .agg (cellsT e)) :
    opA Tryd.prog cfg1 call q ⟨d, .buildSlice 22 1 #[(0, x)], ty, pos, af, g⟩ t env s = some (.sl (cellsT e) 1 .tight, s) := by
  simp only [opA, tkTk, eszT, zeroT, Option.bind_some, List.map_cons, List.map_nil, hx]
  rw [if_pos ⟨by rfl, by decide⟩]
  show Option.map _ (Option.map _ (fillA (fun i => some (i * 6, 6)) (rep 1 zeroT6) [(0, .agg (cellsT e))])) = _
  have := bs1T e
  rw [this]; rfl
theorem roomJ (n : Nat) (h : n ≤ 1000001) : n * byOf Tryd.prog 29 ≤ 140737488355328 ∧ n ≤ 9223372036854775807 := by
  have hb := of_decide_eq_true by28
  have : n * byOf Tryd.prog 29 ≤ 1000001 * 200 := Nat.mul_le_mul h hb
  omega
/-! ### A row that is written, by appends -/
def ApO (s : St) (d : Nat) (x : AV) (us : List T) : Prop := (us = [] ∧ x = .sl [] 0 .nil) ∨ (us ≠ [] ∧ ∃ t, x = .own d t 0 us.length 6 ∧ s d = ⟨t, .buf (cellsK us)⟩)
theorem ApO.push {s : St} {d : Nat} {x : AV} {us : List T} (h : ApO s d x us) (hl : us.length ≤ 1000000) (v : T) :
    ∃ x' s', appendO Tryd.prog #[22, 22] d s x (.sl (cellsT v) 1 .tight) = some (x', s') ∧ ApO s' d x' (us ++ [v]) ∧ ∀ q, q ≠ d → s' q = s q := by
  have hm : moreA Tryd.prog 29 6 (some 22) s (.sl (cellsT v) 1 .tight) = some (cellsT v, 1) := by
    simp only [moreA, Option.map_some, tkTk, cellsT_len, Nat.one_mul, ↓reduceIte]
  have hk : cellsK (us ++ [v]) = cellsK us ++ cellsT v := by rw [cellsK_append]; simp only [cellsK, List.append_nil]
  have h1 : (us.length + 1) * byOf Tryd.prog 29 ≤ 140737488355328 ∧ us.length + 1 ≤ 9223372036854775807 := roomJ (us.length + 1) (by omega)
  rcases h with ⟨rfl, rfl⟩ | ⟨hu, t, rfl, hs⟩
  · refine ⟨.own d ((s d).t + 1) 0 1 6, upd s d ⟨(s d).t + 1, .buf (cellsT v)⟩, ?_, .inr ⟨by simp, (s d).t + 1, rfl, by rw [upd_same]; simp [cellsK]⟩, fun q hq => upd_ne _ _ hq⟩
    have h2 : 1 * byOf Tryd.prog 29 ≤ 140737488355328 := by simpa using h1.1
    simp only [appendO, List.getElem?_toArray, List.getElem?_cons_zero, List.getElem?_cons_succ, Option.map_some, tkTk, eszT, Option.bind_some, hm, zl28, ↓reduceIte, Nat.le_refl, true_and]
    rw [if_pos ⟨h2, by decide⟩]
  · refine ⟨.own d ((s d).t + 1) 0 (us.length + 1) 6, upd (upd s d ⟨t, .dead⟩) d ⟨(s d).t + 1, .buf (cellsK us ++ cellsT v)⟩, ?_, .inr ⟨by simp, (s d).t + 1, by simp, by rw [upd_same, hk]⟩, fun q hq => by rw [upd_ne _ _ hq, upd_ne _ _ hq]⟩
    simp only [appendO, List.getElem?_toArray, List.getElem?_cons_zero, List.getElem?_cons_succ, Option.map_some, tkTk, eszT, Option.bind_some, hm, zl28, ↓reduceIte, hs, cellsK_len, true_and]
    rw [if_pos h1]

theorem itT_k3 (r : Nat) (k : Int) (b : Bool) (lg : Gk) (l : List Nat) (s : List UInt8) (n : Int) (kg : Gk) (ks acc : List T) (h : k = 3) : itT (r + 1) (.mk k b lg l s n kg ks) acc = some acc := by rw [itT_mk, if_pos h]
theorem itT_no (r : Nat) (k : Int) (b : Bool) (lg : Gk) (l : List Nat) (s : List UInt8) (n : Int) (kg : Gk) (ks acc : List T) (h : k ≠ 3) (h4 : k ≠ 4) : itT (r + 1) (.mk k b lg l s n kg ks) acc = none := by rw [itT_mk, if_neg h, if_neg h4]
theorem itT_n2 (r : Nat) (k : Int) (b : Bool) (lg : Gk) (l : List Nat) (s : List UInt8) (n : Int) (kg : Gk) (ks acc : List T) (h : k ≠ 3) (h4 : k = 4) (h2 : ks.length ≠ 2) : itT (r + 1) (.mk k b lg l s n kg ks) acc = none := by
  rw [itT_mk, if_neg h, if_pos h4]
  match ks, h2 with
  | [], _ => rfl
  | [_], _ => rfl
  | [_, _], h => exact absurd rfl h
  | _ :: _ :: _ :: _, _ => rfl
theorem itT_2 (r : Nat) (k : Int) (b : Bool) (lg : Gk) (l : List Nat) (s : List UInt8) (n : Int) (kg : Gk) (x u : T) (acc : List T) (h : k ≠ 3) (h4 : k = 4) : itT (r + 1) (.mk k b lg l s n kg [x, u]) acc = itT r u (acc ++ [x]) := by
  rw [itT_mk, if_neg h, if_pos h4]
def itemsR : Option (List T) → Res
  | some [] => .tree (.tup [.sl [] 0 .nil, .bool true])
  | some (t :: us) => .owns (cellsK (t :: us)) (us.length + 1) 6 [.bool true]
  | none => .tree (.tup [.sl [] 0 .nil, .bool false])
theorem finish_KO (k : Bool) (xs : List Arg) (t t' d : Nat) (x : AV) (us : List T) (env : Env) (s : St) (os : List (List AV)) (hv : env t = x) (hA : ApO s d x us) (hd : xs.length ≤ d) (hb : env t' = .bool true) (ho : outsA s 0 xs = some os) :
    finishO Tryd.prog k xs #[.tmp t, .tmp t'] env s = some (itemsR (some us), os) := by
  rcases hA with ⟨rfl, rfl⟩ | ⟨hu, tt, rfl, hs⟩
  · rw [finishO_else _ _ _ _ _ _ _ _ _ hv, finishP_t2]
    simp [finish, hv, hb, settleL, settle, ho, itemsR]
  · rw [finishO_own _ _ _ _ _ _ _ _ _ _ _ _ _ hv hs hd (by rw [cellsK_len]; omega) hb ho]
    cases us with
    | nil => exact absurd rfl hu
    | cons u us => rfl
theorem finish_KO0 (k : Bool) (xs : List Arg) (t t' : Nat) (env : Env) (s : St) (os : List (List AV)) (hv : env t = .sl [] 0 .nil) (hb : env t' = .bool false) (ho : outsA s 0 xs = some os) :
    finishO Tryd.prog k xs #[.tmp t, .tmp t'] env s = some (itemsR none, os) := by
  rw [finishO_else _ _ _ _ _ _ _ _ _ hv, finishP_t2]
  simp [finish, hv, hb, settleL, settle, ho, itemsR]
set_option maxHeartbeats 8000000 in
theorem items1_eq (R : Nat) (hR : 2010 ≤ R) (d : Nat) (t0 : T) : evalFn Tryd.prog cfg1 R (d+1) 53 [.tree (encT t0)] = some (itemsR (itemsT t0), [[]]) := by
  rw [evalFn_goO _ Tryd.func53 (by unfold Tryd.f53; rfl) (by unfold Tryd.f53; decide) (Nat.le_of_ble_eq_true (by unfold Tryd.f53; rfl)) (by kernel_rfl)]
  simp only [zaa, zab, zac, zad, zae, zaf, zag, zah, zai, zaj, zak, zal, zam, zan, zao, zap, zaq, zar, zas, zat, zau, zav, zaw, zax, zay, zaz, zba, zbb, zbc, zbd, zbe, zbf, zbg, zbh, zbi, zbj, zbk, zbl, zbm, zbn, keep1, zbp, zbq, Nat.reduceBEq, Bool.or_self, Bool.or_false, Bool.or_true, Bool.and_true, Bool.and_false, Bool.true_and, Bool.false_and, Option.isNone_none, Option.isNone_some, Option.isSome_some, Option.isSome_none, zbr, zbs, zbt, zbu, zbv, zbw, zbx, zby, zbz, zca, zcb, zcc, zcd, zce, zcf, zcg, zch, zci, zcj, zck, zcl, zcm, zcn, zco, zcp, zcq, zcr, own1, zcs, zct, zcu, zcv, zcw, zcx, zcy, zcz, zda, zdb, zdc, zdd, zde, zdf, zdg, zdh, zdi, zdj, zdk, zdl, zdm, zdn, zdo, zdp, zdq, zdr, zds, zdt, zdu, Option.getD_some, Option.getD_none, zfb, zfc, zfd, zfe, zff, zfg, zfh, zfi, Option.map_some, Option.map_none, Option.bind_some, List.map_cons, List.map_nil, List.cons_append, List.nil_append, ↓reduceIte, Nat.reduceEqDiff, Nat.reduceAdd, decide_true, decide_false, Bool.true_eq_false, Bool.false_eq_true, env0, List.getElem?_cons_zero, List.getElem?_cons_succ, zef, zeg, zeh, zei, zej, zek, zel, zem, zen, zeo, zep, zeq, zer, fa_0, fa_1, zes, bd_0, bd_2, zet, fd_1, zeu, Nat.zero_add, encT, den_loop]
  refine loop_ends (X := T × List T) (fun x env s => env 1 = .ptr 1 1 0 ∧ s 1 = ⟨1, .buf (cellsT x.1)⟩ ∧ ApO s 29 (env 4) x.2 ∧ x.2.length ≤ 2001 ∧ itT (2001 - x.2.length) x.1 x.2 = itemsT t0) (fun x => 2001 - x.2.length) (fun _ => (itemsR (itemsT t0), [[]])) ?_ R (t0, []) _ _ (by simp only [List.length_nil]; omega) ⟨(by first | (simp only [zfi, ↓reduceIte, Nat.reduceEqDiff]; done) | (simp only [zfi, ↓reduceIte, Nat.reduceEqDiff]; rfl)), (by first | (simp only [zfi, ↓reduceIte, Nat.reduceEqDiff]; done) | (simp only [zfi, ↓reduceIte, Nat.reduceEqDiff]; rfl)), .inl ⟨rfl, (by first | (simp only [zfi, ↓reduceIte, Nat.reduceEqDiff]; done) | (simp only [zfi, ↓reduceIte, Nat.reduceEqDiff]; rfl))⟩, by simp, rfl⟩
  rintro rd ⟨t, acc⟩ hrd ih env st ⟨e1, j1, ap, hl, hit⟩
  simp only at j1 ap hl hit hrd
  rw [← hit]
  generalize h4 : env 4 = x4 at ap
  have la : lenA Tryd.prog 22 st x4 = some (.int .i64 (acc.length : Int)) := by
    rcases ap with ⟨rfl, rfl⟩ | ⟨_, tt, rfl, hs⟩
    · exact lenTk st [] 0 .nil
    · rw [lenO, hs, cellsE_buf, if_pos rfl]; rfl
  by_cases q1 : (acc.length : Int) ≤ 2000
  rotate_left
  · have h0 : 2001 - acc.length = 0 := by omega
    rw [h0, itT]
    simp only [zaa, zab, zac, zad, zae, zaf, zag, zah, zai, zaj, zak, zal, zam, zan, zao, zap, zaq, zar, zas, zat, zau, zav, zaw, zax, zay, zaz, zba, zbb, zbc, zbd, zbe, zbf, zbg, zbh, zbi, zbj, zbk, zbl, zbm, zbn, keep1, zbp, zbq, Nat.reduceBEq, Bool.or_self, Bool.or_false, Bool.or_true, Bool.and_true, Bool.and_false, Bool.true_and, Bool.false_and, Option.isNone_none, Option.isNone_some, Option.isSome_some, Option.isSome_none, zbr, zbs, zbt, zbu, zbv, zbw, zbx, zby, zbz, zca, zcb, zcc, zcd, zce, zcf, zcg, zch, zci, zcj, zck, zcl, zcm, zcn, zco, zcp, zcq, zcr, own1, zcs, zct, zcu, zcv, zcw, zcx, zcy, zcz, zda, zdb, zdc, zdd, zde, zdf, zdg, zdh, zdi, zdj, zdk, zdl, zdm, zdn, zdo, zdp, zdq, zdr, zds, zdt, zdu, Option.getD_some, Option.getD_none, zfb, zfc, zfd, zfe, zff, zfg, zfh, zfi, Option.map_some, Option.map_none, Option.bind_some, List.map_cons, List.map_nil, List.cons_append, List.nil_append, ↓reduceIte, Nat.reduceEqDiff, Nat.reduceAdd, decide_true, decide_false, Bool.true_eq_false, Bool.false_eq_true, finKO_ret, zdv, zdw, zdx, zdy, zdz, zea, zeb, zec, ia22, ld31, zed, zee, zef, zeg, zeh, zei, zej, zek, zel, zem, zen, zeo, zep, zeq, zer, fa_0, fa_1, zes, bd_0, bd_2, zet, fd_1, zeu, Nat.zero_add, e1, h4, la, q1]
    exact finish_KO0 _ _ _ _ _ _ _ (by first | (simp only [zfi, ↓reduceIte, Nat.reduceEqDiff]; done) | (simp only [zfi, ↓reduceIte, Nat.reduceEqDiff]; rfl)) (by first | (simp only [zfi, ↓reduceIte, Nat.reduceEqDiff]; done) | (simp only [zfi, ↓reduceIte, Nat.reduceEqDiff]; rfl)) rfl
  obtain ⟨r, hr⟩ : ∃ r, 2001 - acc.length = r + 1 := ⟨2000 - acc.length, by omega⟩
  rw [hr] at hit ⊢
  obtain ⟨k, b, lg, l, s, m, kg, ks⟩ := t
  simp only [cellsT] at j1
  by_cases k3 : k = 3
  · rw [itT_k3 _ _ _ _ _ _ _ _ _ _ k3]
    have q3 : (k == 3) = true := by rw [k3]; rfl
    simp only [zaa, zab, zac, zad, zae, zaf, zag, zah, zai, zaj, zak, zal, zam, zan, zao, zap, zaq, zar, zas, zat, zau, zav, zaw, zax, zay, zaz, zba, zbb, zbc, zbd, zbe, zbf, zbg, zbh, zbi, zbj, zbk, zbl, zbm, zbn, keep1, zbp, zbq, Nat.reduceBEq, Bool.or_self, Bool.or_false, Bool.or_true, Bool.and_true, Bool.and_false, Bool.true_and, Bool.false_and, Option.isNone_none, Option.isNone_some, Option.isSome_some, Option.isSome_none, zbr, zbs, zbt, zbu, zbv, zbw, zbx, zby, zbz, zca, zcb, zcc, zcd, zce, zcf, zcg, zch, zci, zcj, zck, zcl, zcm, zcn, zco, zcp, zcq, zcr, own1, zcs, zct, zcu, zcv, zcw, zcx, zcy, zcz, zda, zdb, zdc, zdd, zde, zdf, zdg, zdh, zdi, zdj, zdk, zdl, zdm, zdn, zdo, zdp, zdq, zdr, zds, zdt, zdu, Option.getD_some, Option.getD_none, zfb, zfc, zfd, zfe, zff, zfg, zfh, zfi, Option.map_some, Option.map_none, Option.bind_some, List.map_cons, List.map_nil, List.cons_append, List.nil_append, ↓reduceIte, Nat.reduceEqDiff, Nat.reduceAdd, decide_true, decide_false, Bool.true_eq_false, Bool.false_eq_true, finKO_ret, zdv, zdw, zdx, zdy, zdz, zea, zeb, zec, ia22, ld31, zed, zee, zef, zeg, zeh, zei, zej, zek, zel, zem, zen, zeo, zep, zeq, zer, fa_0, fa_1, zes, bd_0, bd_2, zet, fd_1, zeu, Nat.zero_add, e1, j1, h4, la, q1, faT_0, ldT_0, i_eqlV, q3]
    exact finish_KO _ _ _ _ 29 x4 acc _ _ _ (by first | (simp only [zfi, ↓reduceIte, Nat.reduceEqDiff]; done) | (simp only [zfi, ↓reduceIte, Nat.reduceEqDiff]; rfl)) ap (by simp) (by first | (simp only [zfi, ↓reduceIte, Nat.reduceEqDiff]; done) | (simp only [zfi, ↓reduceIte, Nat.reduceEqDiff]; rfl)) rfl
  have q3 : (k == 3) = false := beq_eq_false_iff_ne.mpr k3
  by_cases k4 : k = 4
  rotate_left
  · rw [itT_no _ _ _ _ _ _ _ _ _ _ k3 k4]
    have q4 : (k != 4) = true := bne_iff_ne.mpr k4
    simp only [zaa, zab, zac, zad, zae, zaf, zag, zah, zai, zaj, zak, zal, zam, zan, zao, zap, zaq, zar, zas, zat, zau, zav, zaw, zax, zay, zaz, zba, zbb, zbc, zbd, zbe, zbf, zbg, zbh, zbi, zbj, zbk, zbl, zbm, zbn, keep1, zbp, zbq, Nat.reduceBEq, Bool.or_self, Bool.or_false, Bool.or_true, Bool.and_true, Bool.and_false, Bool.true_and, Bool.false_and, Option.isNone_none, Option.isNone_some, Option.isSome_some, Option.isSome_none, zbr, zbs, zbt, zbu, zbv, zbw, zbx, zby, zbz, zca, zcb, zcc, zcd, zce, zcf, zcg, zch, zci, zcj, zck, zcl, zcm, zcn, zco, zcp, zcq, zcr, own1, zcs, zct, zcu, zcv, zcw, zcx, zcy, zcz, zda, zdb, zdc, zdd, zde, zdf, zdg, zdh, zdi, zdj, zdk, zdl, zdm, zdn, zdo, zdp, zdq, zdr, zds, zdt, zdu, Option.getD_some, Option.getD_none, zfb, zfc, zfd, zfe, zff, zfg, zfh, zfi, Option.map_some, Option.map_none, Option.bind_some, List.map_cons, List.map_nil, List.cons_append, List.nil_append, ↓reduceIte, Nat.reduceEqDiff, Nat.reduceAdd, decide_true, decide_false, Bool.true_eq_false, Bool.false_eq_true, finKO_ret, zdv, zdw, zdx, zdy, zdz, zea, zeb, zec, ia22, ld31, zed, zee, zef, zeg, zeh, zei, zej, zek, zel, zem, zen, zeo, zep, zeq, zer, fa_0, fa_1, zes, bd_0, bd_2, zet, fd_1, zeu, Nat.zero_add, e1, j1, h4, la, q1, faT_0, ldT_0, i_eqlV, i_neqV, q3, q4]
    exact finish_KO0 _ _ _ _ _ _ _ (by first | (simp only [zfi, ↓reduceIte, Nat.reduceEqDiff]; done) | (simp only [zfi, ↓reduceIte, Nat.reduceEqDiff]; rfl)) (by first | (simp only [zfi, ↓reduceIte, Nat.reduceEqDiff]; done) | (simp only [zfi, ↓reduceIte, Nat.reduceEqDiff]; rfl)) rfl
  have q4 : (k != 4) = false := by rw [k4]; rfl
  by_cases k2 : ks.length = 2
  rotate_left
  · rw [itT_n2 _ _ _ _ _ _ _ _ _ _ k3 k4 k2]
    have q5 : ((ks.length : Int) != 2) = true := bne_iff_ne.mpr (by omega)
    simp only [zaa, zab, zac, zad, zae, zaf, zag, zah, zai, zaj, zak, zal, zam, zan, zao, zap, zaq, zar, zas, zat, zau, zav, zaw, zax, zay, zaz, zba, zbb, zbc, zbd, zbe, zbf, zbg, zbh, zbi, zbj, zbk, zbl, zbm, zbn, keep1, zbp, zbq, Nat.reduceBEq, Bool.or_self, Bool.or_false, Bool.or_true, Bool.and_true, Bool.and_false, Bool.true_and, Bool.false_and, Option.isNone_none, Option.isNone_some, Option.isSome_some, Option.isSome_none, zbr, zbs, zbt, zbu, zbv, zbw, zbx, zby, zbz, zca, zcb, zcc, zcd, zce, zcf, zcg, zch, zci, zcj, zck, zcl, zcm, zcn, zco, zcp, zcq, zcr, own1, zcs, zct, zcu, zcv, zcw, zcx, zcy, zcz, zda, zdb, zdc, zdd, zde, zdf, zdg, zdh, zdi, zdj, zdk, zdl, zdm, zdn, zdo, zdp, zdq, zdr, zds, zdt, zdu, Option.getD_some, Option.getD_none, zfb, zfc, zfd, zfe, zff, zfg, zfh, zfi, Option.map_some, Option.map_none, Option.bind_some, List.map_cons, List.map_nil, List.cons_append, List.nil_append, ↓reduceIte, Nat.reduceEqDiff, Nat.reduceAdd, decide_true, decide_false, Bool.true_eq_false, Bool.false_eq_true, finKO_ret, zdv, zdw, zdx, zdy, zdz, zea, zeb, zec, ia22, ld31, zed, zee, zef, zeg, zeh, zei, zej, zek, zel, zem, zen, zeo, zep, zeq, zer, fa_0, fa_1, zes, bd_0, bd_2, zet, fd_1, zeu, Nat.zero_add, e1, j1, h4, la, q1, faT_0, ldT_0, faT_4, ldT_4, lenTk, i_eqlV, i_neqV, q3, q4, q5]
    exact finish_KO0 _ _ _ _ _ _ _ (by first | (simp only [zfi, ↓reduceIte, Nat.reduceEqDiff]; done) | (simp only [zfi, ↓reduceIte, Nat.reduceEqDiff]; rfl)) (by first | (simp only [zfi, ↓reduceIte, Nat.reduceEqDiff]; done) | (simp only [zfi, ↓reduceIte, Nat.reduceEqDiff]; rfl)) rfl
  obtain ⟨h, u, rfl⟩ : ∃ h u, ks = [h, u] := by
    match ks, k2 with
    | [h, u], _ => exact ⟨h, u, rfl⟩
  rw [itT_2 _ _ _ _ _ _ _ _ _ _ _ k3 k4] at hit ⊢
  simp only [List.length_cons, List.length_nil, Nat.zero_add, Nat.reduceAdd] at j1
  have q5 : (((2 : Nat) : Int) != 2) = false := rfl
  obtain ⟨x', s', a1, a2, a3⟩ := ap.push (by omega) h
  have i0 : ∀ st, indexAddrA Tryd.prog 22 st (.sl (cellsK [h, u]) 2 (gr kg)) (.int .i64 0) = some (.rptr (cellsK [h, u])) := fun st => ia_K st [h, u] (gr kg) 0 (by simp)
  have i1 : ∀ st, indexAddrA Tryd.prog 22 st (.sl (cellsK [h, u]) 2 (gr kg)) (.int .i64 1) = some (.rptr (cellsK [u])) := fun st => ia_K st [h, u] (gr kg) 1 (by simp)
  have l0 := fun st => ld_K st h [u]
  have l1 := fun st => ld_K st u []
  simp only [encT] at l0 l1
  have bs := fun (q : Bool) (d' : Option Tmp) (ty : TypeId) (pos : String) (af : Array Edge) (g : Option (Nat × Bool)) (t : Nat) (env : Env) (s : St) (x : Operand) (hx : ev env x = .agg (cellsT h)) => opA_bs1c (evalFn Tryd.prog cfg1 R d) q d' ty pos af g t env s x _ hx
  have j1' : s' 1 = ⟨1, .buf [.int .i64 k, .bool b, encL lg l, .str s, .int .i64 m, .sl (cellsK [h, u]) 2 (gr kg)]⟩ := by rw [a3 1 (by decide)]; exact j1
  have p1 : (("term.go:236" : String) == "term.go:236" || ("term.go:236" : String) == "relict/term.Items") = true := by decide
  simp only [zaa, zab, zac, zad, zae, zaf, zag, zah, zai, zaj, zak, zal, zam, zan, zao, zap, zaq, zar, zas, zat, zau, zav, zaw, zax, zay, zaz, zba, zbb, zbc, zbd, zbe, zbf, zbg, zbh, zbi, zbj, zbk, zbl, zbm, zbn, keep1, zbp, zbq, Nat.reduceBEq, Bool.or_self, Bool.or_false, Bool.or_true, Bool.and_true, Bool.and_false, Bool.true_and, Bool.false_and, Option.isNone_none, Option.isNone_some, Option.isSome_some, Option.isSome_none, zbr, zbs, zbt, zbu, zbv, zbw, zbx, zby, zbz, zca, zcb, zcc, zcd, zce, zcf, zcg, zch, zci, zcj, zck, zcl, zcm, zcn, zco, zcp, zcq, zcr, own1, zcs, zct, zcu, zcv, zcw, zcx, zcy, zcz, zda, zdb, zdc, zdd, zde, zdf, zdg, zdh, zdi, zdj, zdk, zdl, zdm, zdn, zdo, zdp, zdq, zdr, zds, zdt, zdu, Option.getD_some, Option.getD_none, zfb, zfc, zfd, zfe, zff, zfg, zfh, zfi, Option.map_some, Option.map_none, Option.bind_some, List.map_cons, List.map_nil, List.cons_append, List.nil_append, ↓reduceIte, Nat.reduceEqDiff, Nat.reduceAdd, decide_true, decide_false, Bool.true_eq_false, Bool.false_eq_true, zdv, zdw, zdx, zdy, zdz, zea, zeb, zec, ia22, ld31, zed, zee, zef, zeg, zeh, zei, zej, zek, zel, zem, zen, zeo, zep, zeq, zer, fa_0, fa_1, zes, bd_0, bd_2, zet, fd_1, zeu, Nat.zero_add, e1, j1, h4, la, q1, faT_0, ldT_0, faT_4, ldT_4, lenTk, i_eqlV, i_neqV, q3, q4, q5, i0, l0]
  rw [bs _ _ _ _ _ _ _ _ _ _ (by first | (simp only [zfi, ↓reduceIte, Nat.reduceEqDiff, zfd]; done) | (simp only [zfi, ↓reduceIte, Nat.reduceEqDiff, zfd]; rfl))]
  simp only [zaa, zab, zac, zad, zae, zaf, zag, zah, zai, zaj, zak, zal, zam, zan, zao, zap, zaq, zar, zas, zat, zau, zav, zaw, zax, zay, zaz, zba, zbb, zbc, zbd, zbe, zbf, zbg, zbh, zbi, zbj, zbk, zbl, zbm, zbn, keep1, zbp, zbq, Nat.reduceBEq, Bool.or_self, Bool.or_false, Bool.or_true, Bool.and_true, Bool.and_false, Bool.true_and, Bool.false_and, Option.isNone_none, Option.isNone_some, Option.isSome_some, Option.isSome_none, zbr, zbs, zbt, zbu, zbv, zbw, zbx, zby, zbz, zca, zcb, zcc, zcd, zce, zcf, zcg, zch, zci, zcj, zck, zcl, zcm, zcn, zco, zcp, zcq, zcr, own1, zcs, zct, zcu, zcv, zcw, zcx, zcy, zcz, zda, zdb, zdc, zdd, zde, zdf, zdg, zdh, zdi, zdj, zdk, zdl, zdm, zdn, zdo, zdp, zdq, zdr, zds, zdt, zdu, Option.getD_some, Option.getD_none, zfb, zfc, zfd, zfe, zff, zfg, zfh, zfi, Option.map_some, Option.map_none, Option.bind_some, List.map_cons, List.map_nil, List.cons_append, List.nil_append, ↓reduceIte, Nat.reduceEqDiff, Nat.reduceAdd, decide_true, decide_false, Bool.true_eq_false, Bool.false_eq_true, zdv, zdw, zdx, zdy, zdz, zea, zeb, zec, ia22, ld31, zed, zee, zef, zeg, zeh, zei, zej, zek, zel, zem, zen, zeo, zep, zeq, zer, fa_0, fa_1, zes, bd_0, bd_2, zet, fd_1, zeu, Nat.zero_add, p1, a1, e1, j1', h4, faT_4, ldT_4, i1, l1, st_Tt, stT_6]
  have ha := a2
  rw [hit]
  refine ih (u, acc ++ [h]) _ _ (by simp; omega) rfl ?_
  refine ⟨(by first | (simp only [zfi, ↓reduceIte, Nat.reduceEqDiff, e1]; done) | (simp only [zfi, ↓reduceIte, Nat.reduceEqDiff, e1]; rfl)), (by first | (simp only [zfi, ↓reduceIte, Nat.reduceEqDiff]; done) | (simp only [zfi, ↓reduceIte, Nat.reduceEqDiff]; rfl)), ?_, by simp; omega, ?_⟩
  · rcases ha with ⟨g1, _⟩ | ⟨g1, tt, g2, g3⟩
    · exact absurd g1 (by simp)
    · exact .inr ⟨g1, tt, g2, by rw [upd_ne _ _ (by decide)]; exact g3⟩
  · simp only [List.length_append, List.length_cons, List.length_nil]
    rw [show 2001 - (acc.length + (0 + 1)) = r by omega]
    exact hit
end Go.Ab

/- bif.one of reverse, run with a list's terms writable (CFG1). Condition: a proper list, its length in range. -/
namespace Go.Ab
open Go.Proofs
set_option maxRecDepth 100000
set_option linter.unusedSimpArgs false

section
variable {cfg : Cfg} {call : FuncId → List Arg → Option Out}
theorem callA_owns {d : Nat} {s : St} {f : FuncId} {v : AV} {xs : List AV} {len e : Nat} {rest : List AV} (ht : isTree v = true) (hc : call f [.tree v] = some (.owns xs len e rest, [[]])) : callA cfg call d s f [v] = some (.tupo d ((s d).t + 1) 0 len e rest, upd s d ⟨(s d).t + 1, .buf xs⟩) := by
  have h1 : argsA cfg f s 0 [v] = some [.tree v] := argsA_trees f s [v] 0 (by simpa using ht)
  have h2 : givesL [v] [Arg.tree v] = [] := givesL_trees [v]
  have h3 : lendsL [v] [Arg.tree v] = [] := lendsL_trees [v] (by simpa using ht)
  have h4 : backA s [v] [Arg.tree v] [[]] = some s := backA_trees s [v]
  simp only [callA, h1, Option.bind_some, h2, h3, List.nodup_nil, List.not_mem_nil, false_implies, implies_true, and_self, if_true, hc, List.foldl_nil, ite_self, h4, resA]
theorem callA_rev {d : Nat} {s : St} {f : FuncId} {p t len e : Nat} {xs ys : List AV} (hlin : cfg.lin f 0 = true) (hs : s p = ⟨t, .buf xs⟩) (hl : 0 + len * e ≤ xs.length) (hc : call f [.own xs 0 len e] = some (.tree (.tup []), [ys])) : callA cfg call d s f [.own p t 0 len e] = some (.tup [], upd s p ⟨t, .buf ys⟩) := by
  simp only [callA, argsA, argA, cellsAt, hs, if_true, Option.bind_some, hl, hlin, Option.map_some, givesL, givesOf, lendsL, lendsOf, hc, backA, resA]
  rw [if_pos (by simp)]
  simp [hs]
theorem callA_lent {d : Nat} {s : St} {f : FuncId} {p t len e : Nat} {xs : List AV} {v r : AV} (hlin : cfg.lin f 0 = false) (hs : s p = ⟨t, .buf xs⟩) (hl : len * e = xs.length) (hv : isTree v = true) (hr : flat r = false) (hr2 : ∀ vs, r ≠ .tup vs) (hc : call f [.tree (.sl xs len .loose), .tree v] = some (.tree r, [[], []])) : callA cfg call d s f [.own p t 0 len e, v] = some (r, upd s p ⟨t, .frz xs⟩) := by
  have h1 : argsA cfg f s 1 [v] = some [.tree v] := argsA_trees f s [v] 1 (by simpa using hv)
  have h2 : givesOf v (.tree v) = none := by cases v <;> first | rfl | (rename_i g; cases g <;> rfl)
  have h3 : lendsOf v (.tree v) = none := by cases v <;> first | rfl | cases hv
  have hf : flatR (.tree r) = false := by
    cases r <;> first | exact hr | exact absurd rfl (hr2 _)
  have h4 : givesOf (.own p t 0 len e) (.tree (.sl xs len .loose)) = none := rfl
  have h5 : lendsOf (.own p t 0 len e) (.tree (.sl xs len .loose)) = some p := rfl
  rw [callA, argsA]
  simp only [argA, cellsAt, hs, if_true, Option.bind_some, Nat.zero_add, hl, Nat.le_refl, hlin, Bool.false_eq_true, if_false, List.drop_zero, List.take_length, h1, Option.map_some, givesL, h4, h2, lendsL, h5, h3, hc, hf, Bool.false_and]
  rw [if_pos (by simp)]
  simp [frzAt, hs, backA, h4, h2, resA]
end
theorem tList1_eq (n d : Nat) (ks : List T) (g : Grip) (t : T) (h : ks.length ≤ 9223372036854775807) : evalFn Tryd.prog cfg1 n (d+1) 55 [.tree (.sl (cellsK ks) ks.length g), .tree (encT t)] = some (.tree (encT (listT ks t)), [[], []]) := by
  have hp : primA 55 [.tree (.sl (cellsK ks) ks.length g), .tree (encT t)] = some (.tree (encT (listT ks t)), [[], []]) := by
    unfold primA
    rw [if_neg (by decide), if_pos (by decide)]
    have e := lstN_K ks ks.length t (Nat.le_refl _)
    rw [List.take_length] at e
    simp only [listP, encT]
    rw [if_pos ⟨cellsK_len ks, cellsT_len t, h⟩, e]
  have hc : cfg1.prim = primA := rfl
  rw [evalFn]
  simp only [hc, hp]
theorem empty1_eq (n d : Nat) : evalFn Tryd.prog cfg1 n (d+1) 56 [] = some (.tree (encT nilT'), []) := by
  rw [evalFn_go _ Tryd.func56 (by unfold Tryd.f56; rfl) (by unfold Tryd.f56; decide) (Nat.le_of_ble_eq_true (by unfold Tryd.f56; rfl)) (by kernel_rfl)]
  simp only [zaa, zab, zac, zad, zae, zaf, zag, zah, zai, zaj, zak, zal, zam, zan, zao, zap, zaq, zar, zas, zat, zau, zav, zaw, zax, zay, zaz, zba, zbb, zbc, zbd, zbe, zbf, zbg, zbh, zbi, zbj, zbk, zbl, zbm, zbn, keep1, zbp, zbq, Nat.reduceBEq, Bool.or_self, Bool.or_false, Bool.or_true, Bool.and_true, Bool.and_false, Bool.true_and, Bool.false_and, Option.isNone_none, Option.isNone_some, Option.isSome_some, Option.isSome_none, zbr, zbs, zbt, zbu, zbv, zbw, zbx, zby, zbz, zca, zcb, zcc, zcd, zce, zcf, zcg, zch, zci, zcj, zck, zcl, zcm, zcn, zco, zcp, zcq, zcr, own1, zcs, zct, zcu, zcv, zcw, zcx, zcy, zcz, zda, zdb, zdc, zdd, zde, zdf, zdg, zdh, zdi, zdj, zdk, zdl, zdm, zdn, zdo, zdp, zdq, zdr, zds, zdt, zdu, Option.getD_some, Option.getD_none, zfb, zfc, zfd, zfe, zff, zfg, zfh, zfi, Option.map_some, Option.map_none, Option.bind_some, List.map_cons, List.map_nil, List.cons_append, List.nil_append, ↓reduceIte, Nat.reduceEqDiff, Nat.reduceAdd, decide_true, decide_false, Bool.true_eq_false, Bool.false_eq_true, env0, List.getElem?_cons_zero, List.getElem?_cons_succ, zdv, zdw, zdx, zdy, zdz, zea, zeb, zec, ia22, ld31, zed, zee, zef, zeg, zeh, zei, zej, zek, zel, zem, zen, zeo, zep, zeq, zer, fa_0, fa_1, zes, bd_0, bd_2, zet, fd_1, zeu, Nat.zero_add, zeroT, bdN3, st_Tt, stT_6]
  exact finish_cT _ _ _ _ _ nilT' _ _ _ (by first | (simp only [zfi, ↓reduceIte, Nat.reduceEqDiff]; done) | (simp only [zfi, ↓reduceIte, Nat.reduceEqDiff]; rfl)) (by first | (simp only [zfi, ↓reduceIte, Nat.reduceEqDiff]; done) | (simp only [zfi, ↓reduceIte, Nat.reduceEqDiff]; rfl)) rfl
def sRev : List UInt8 := [114, 101, 118, 101, 114, 115, 101]
theorem idxRev1 : evalFn Tryd.prog cfg1 100000 20 33 [.tree (.sl five 5 .tight), .tree (.str sRev)] = some (.tree (.int .i64 (-1)), [[], []]) := by kernel_rfl
theorem rev1_nil : evalFn Tryd.prog cfg1 100000 20 54 [.tree (.sl [] 0 .nil)] = some (.tree (.tup []), [[]]) := by kernel_rfl
theorem opA_five64c (call : FuncId → List Arg → Option Out) (q : Bool) (d : Option Tmp) (ty : TypeId) (pos : String) (af : Array Edge) (g : Option (Nat × Bool)) (t : Nat) (env : Env) (s : St) (x1 x2 x3 x4 x5 : Operand) :
    opA Tryd.prog cfg1 call q ⟨d, .buildSlice 53 5 #[(0, x1), (1, x2), (2, x3), (3, x4), (4, x5)], ty, pos, af, g⟩ t env s = (five64 (ev env x1) (ev env x2) (ev env x3) (ev env x4) (ev env x5)).map (·, s) := by
  rw [opA_bs]
  simp only [tk64, esz9, zero9, Option.bind_some, List.map_cons, List.map_nil]
  rfl
set_option maxHeartbeats 8000000 in
theorem oneRev1_eq (t : T) (us : List T) (h : itemsT t = some us) (hl : us.length ≤ 2001) : evalFn Tryd.prog cfg1 100000 40 34 [.tree (.str sRev), .tree (encT t)] = some (.tree (.tup [encT (listT us.reverse nilT'), .bool true]), [[], []]) := by
  rw [evalFn_go _ Tryd.func34 (by unfold Tryd.f34; rfl) (by unfold Tryd.f34; decide) (Nat.le_of_ble_eq_true (by unfold Tryd.f34; rfl)) (by kernel_rfl)]
  have w0 : (sRev == ([108, 105, 115, 116, 95, 116, 111, 95, 116, 117, 112, 108, 101] : List UInt8)) = false := by decide
  have w1 : (sRev == ([114, 101, 118, 101, 114, 115, 101] : List UInt8)) = true := by decide
  have ci := fun D st => callA_trees (cfg := cfg1) (d := D) (s := st) (f := 33) (vs := [.sl five 5 .tight, .str sRev]) rfl (evalFn_mono (show 100000 ≤ 100000 by omega) 20 39 (by omega) _ _ _ idxRev1)
  simp only [five] at ci
  have ce := fun D st => callA_trees (cfg := cfg1) (d := D) (s := st) (f := 56) (vs := []) rfl (empty1_eq 100000 38)
  have q1 : ¬ ((-1 : Int) ≥ 0) := by decide
  have hi := items1_eq 100000 (by omega) 38 t
  rw [h] at hi
  have hL := tList1_eq 100000 38 us.reverse .loose nilT' (by rw [List.length_reverse]; omega)
  have hL0 := tList1_eq 100000 38 [] .nil nilT' (by simp)
  obtain ⟨k, n1, lg, l, s1, i1, kg, ks⟩ := t
  cases us with
  | nil =>
    have ct := fun D st => callA_trees (cfg := cfg1) (d := D) (s := st) (f := 53) (vs := [encT (.mk k n1 lg l s1 i1 kg ks)]) rfl hi
    have cr := fun D st => callA_trees (cfg := cfg1) (d := D) (s := st) (f := 54) (vs := [.sl [] 0 .nil]) rfl (evalFn_mono (show 100000 ≤ 100000 by omega) 20 39 (by omega) _ _ _ rev1_nil)
    have cl := fun D st => callA_trees (cfg := cfg1) (d := D) (s := st) (f := 55) (vs := [.sl [] 0 .nil, encT nilT']) rfl hL0
    simp only [encT, cellsT] at ct cl ce
    simp only [zaa, zab, zac, zad, zae, zaf, zag, zah, zai, zaj, zak, zal, zam, zan, zao, zap, zaq, zar, zas, zat, zau, zav, zaw, zax, zay, zaz, zba, zbb, zbc, zbd, zbe, zbf, zbg, zbh, zbi, zbj, zbk, zbl, zbm, zbn, keep1, zbp, zbq, Nat.reduceBEq, Bool.or_self, Bool.or_false, Bool.or_true, Bool.and_true, Bool.and_false, Bool.true_and, Bool.false_and, Option.isNone_none, Option.isNone_some, Option.isSome_some, Option.isSome_none, zbr, zbs, zbt, zbu, zbv, zbw, zbx, zby, zbz, zca, zcb, zcc, zcd, zce, zcf, zcg, zch, zci, zcj, zck, zcl, zcm, zcn, zco, zcp, zcq, zcr, own1, zcs, zct, zcu, zcv, zcw, zcx, zcy, zcz, zda, zdb, zdc, zdd, zde, zdf, zdg, zdh, zdi, zdj, zdk, zdl, zdm, zdn, zdo, zdp, zdq, zdr, zds, zdt, zdu, Option.getD_some, Option.getD_none, zfb, zfc, zfd, zfe, zff, zfg, zfh, zfi, Option.map_some, Option.map_none, Option.bind_some, List.map_cons, List.map_nil, List.cons_append, List.nil_append, ↓reduceIte, Nat.reduceEqDiff, Nat.reduceAdd, decide_true, decide_false, Bool.true_eq_false, Bool.false_eq_true, env0, List.getElem?_cons_zero, List.getElem?_cons_succ, zdv, zdw, zdx, zdy, zdz, zea, zeb, zec, ia22, ld31, zed, zee, zef, zeg, zeh, zei, zej, zek, zel, zem, zen, zeo, zep, zeq, zer, fa_0, fa_1, zes, bd_0, bd_2, zet, fd_1, zeu, Nat.zero_add, zev, List.toList_toArray, len9, ix9, zew, zex, zey, zez, zfa, zeroT, encT, opA_five64c, five64_str, ci, q1, ct, cellsT, ldT_a, s_eqlS, w0, w1, cr, ce, cl, st_Tt, stT_6]
    exact finish_T2 _ _ _ _ _ (listT [] nilT') _ _ _ _ _ (by first | (simp only [zfi, ↓reduceIte, Nat.reduceEqDiff]; done) | (simp only [zfi, ↓reduceIte, Nat.reduceEqDiff]; rfl)) (by first | (simp only [zfi, ↓reduceIte, Nat.reduceEqDiff]; done) | (simp only [zfi, ↓reduceIte, Nat.reduceEqDiff]; rfl)) (by first | (simp only [zfi, ↓reduceIte, Nat.reduceEqDiff]; done) | (simp only [zfi, ↓reduceIte, Nat.reduceEqDiff]; rfl)) rfl
  | cons u us =>
    have ct := fun D st => callA_owns (cfg := cfg1) (d := D) (s := st) (f := 53) (v := encT (.mk k n1 lg l s1 i1 kg ks)) rfl hi
    have hr := reverse_eq 100000 38 (u :: us) (by simp at hl ⊢; omega) (by simp at hl ⊢; omega)
    have cr := fun D st p t (hs : st p = ⟨t, .buf (cellsK (u :: us))⟩) => callA_rev (cfg := cfg1) (d := D) (s := st) (f := 54) (p := p) (t := t) rfl hs (by rw [cellsK_len]; omega) hr
    rw [List.length_reverse] at hL
    have cl := fun D st p t (hs : st p = ⟨t, .buf (cellsK (u :: us).reverse)⟩) => callA_lent (cfg := cfg1) (d := D) (s := st) (f := 55) (p := p) (t := t) (v := encT nilT') rfl hs (by rw [cellsK_len, List.length_reverse]) rfl rfl (fun _ h => by cases h) hL
    simp only [encT, cellsT, List.length_cons] at ct cl ce cr
    simp only [zaa, zab, zac, zad, zae, zaf, zag, zah, zai, zaj, zak, zal, zam, zan, zao, zap, zaq, zar, zas, zat, zau, zav, zaw, zax, zay, zaz, zba, zbb, zbc, zbd, zbe, zbf, zbg, zbh, zbi, zbj, zbk, zbl, zbm, zbn, keep1, zbp, zbq, Nat.reduceBEq, Bool.or_self, Bool.or_false, Bool.or_true, Bool.and_true, Bool.and_false, Bool.true_and, Bool.false_and, Option.isNone_none, Option.isNone_some, Option.isSome_some, Option.isSome_none, zbr, zbs, zbt, zbu, zbv, zbw, zbx, zby, zbz, zca, zcb, zcc, zcd, zce, zcf, zcg, zch, zci, zcj, zck, zcl, zcm, zcn, zco, zcp, zcq, zcr, own1, zcs, zct, zcu, zcv, zcw, zcx, zcy, zcz, zda, zdb, zdc, zdd, zde, zdf, zdg, zdh, zdi, zdj, zdk, zdl, zdm, zdn, zdo, zdp, zdq, zdr, zds, zdt, zdu, Option.getD_some, Option.getD_none, zfb, zfc, zfd, zfe, zff, zfg, zfh, zfi, Option.map_some, Option.map_none, Option.bind_some, List.map_cons, List.map_nil, List.cons_append, List.nil_append, ↓reduceIte, Nat.reduceEqDiff, Nat.reduceAdd, decide_true, decide_false, Bool.true_eq_false, Bool.false_eq_true, env0, List.getElem?_cons_zero, List.getElem?_cons_succ, zdv, zdw, zdx, zdy, zdz, zea, zeb, zec, ia22, ld31, zed, zee, zef, zeg, zeh, zei, zej, zek, zel, zem, zen, zeo, zep, zeq, zer, fa_0, fa_1, zes, bd_0, bd_2, zet, fd_1, zeu, Nat.zero_add, zev, List.toList_toArray, len9, ix9, zew, zex, zey, zez, zfa, zeroT, encT, opA_five64c, five64_str, ci, q1, ct, cellsT, ldT_a, s_eqlS, w0, w1, ce, cr, cl, st_Tt, stT_6]
    exact finish_T2 _ _ _ _ _ (listT (u :: us).reverse nilT') _ _ _ _ _ (by first | (simp only [zfi, ↓reduceIte, Nat.reduceEqDiff]; done) | (simp only [zfi, ↓reduceIte, Nat.reduceEqDiff]; rfl)) (by first | (simp only [zfi, ↓reduceIte, Nat.reduceEqDiff]; done) | (simp only [zfi, ↓reduceIte, Nat.reduceEqDiff]; rfl)) (by first | (simp only [zfi, ↓reduceIte, Nat.reduceEqDiff]; done) | (simp only [zfi, ↓reduceIte, Nat.reduceEqDiff]; rfl)) rfl
end Go.Ab

/- relictref03.Cmp, walked. Conditions: terms that may be. -/
namespace Go.Ab
open Go.Proofs
set_option maxRecDepth 100000
set_option linter.unusedSimpArgs false

end Go.Ab

/- bif.two: max, min, member; bif.Call of two arguments. Conditions: terms that may be. -/
namespace Go.Ab
open Go.Proofs
set_option maxRecDepth 100000
set_option linter.unusedSimpArgs false

theorem ia_K2a (st : St) (t u : T) : indexAddrA Tryd.prog 22 st (.sl (cellsK [t, u]) 2 .tight) (.int .i64 0) = some (.rptr (cellsK [t, u])) := ia_K st [t, u] .tight 0 (Nat.zero_lt_succ _)
theorem ia_K2b (st : St) (t u : T) : indexAddrA Tryd.prog 22 st (.sl (cellsK [t, u]) 2 .tight) (.int .i64 1) = some (.rptr (cellsK [u])) := ia_K st [t, u] .tight 1 (Nat.lt_succ_self _)
set_option maxHeartbeats 4000000 in
theorem answer2_eq (R d : Nat) (name : List UInt8) (t t' u : T) (v : Bool) (h : evalFn Tryd.prog cfg0 R d 35 [.tree (.str name), .tree (encT t), .tree (encT t')] = some (.tree (.tup [encT u, .bool v]), [[], [], []])) :
    evalFn Tryd.prog cfg0 R (d+1) 22 [.tree (.str name), .tree (.sl (cellsK [t, t']) 2 .tight)] = some (.tree (.tup [encT u, .bool v]), [[], []]) := by
  rw [evalFn_go _ Tryd.func22 (by unfold Tryd.f22; rfl) (by unfold Tryd.f22; decide) (Nat.le_of_ble_eq_true (by unfold Tryd.f22; rfl)) (by kernel_rfl)]
  have c := callQ_trees (f := 35) (vs := [.str name, encT t, encT t']) rfl h
  simp only [encT] at c
  have q1 : (((2 : Nat) : Int) == 1) = false := rfl
  have q2 : (((2 : Nat) : Int) == 2) = true := rfl
  simp only [zaa, zab, zac, zad, zae, zaf, zag, zah, zai, zaj, zak, zal, zam, zan, zao, zap, zaq, zar, zas, zat, zau, zav, zaw, zax, zay, zaz, zba, zbb, zbc, zbd, zbe, zbf, zbg, zbh, zbi, zbj, zbk, zbl, zbm, zbn, zbo, zbp, zbq, Nat.reduceBEq, Bool.or_self, Bool.or_false, Bool.or_true, Bool.and_true, Bool.and_false, Bool.true_and, Bool.false_and, Option.isNone_none, Option.isNone_some, Option.isSome_some, Option.isSome_none, zbr, zbs, zbt, zbu, zbv, zbw, zbx, zby, zbz, zca, zcb, zcc, zcd, zce, zcf, zcg, zch, zci, zcj, zck, zcl, zcm, zcn, zco, zcp, zcq, zcr, own0, zcs, zct, zcu, zcv, zcw, zcx, zcy, zcz, zda, zdb, zdc, zdd, zde, zdf, zdg, zdh, zdi, zdj, zdk, zdl, zdm, zdn, zdo, zdp, zdq, zdr, zds, zdt, zdu, Option.getD_some, Option.getD_none, zfb, zfc, zfd, zfe, zff, zfg, zfh, zfi, Option.map_some, Option.map_none, Option.bind_some, List.map_cons, List.map_nil, List.cons_append, List.nil_append, ↓reduceIte, Nat.reduceEqDiff, Nat.reduceAdd, decide_true, decide_false, Bool.true_eq_false, Bool.false_eq_true, env0, List.getElem?_cons_zero, List.getElem?_cons_succ, zdv, zdw, zdx, zdy, zdz, zea, zeb, zec, ia22, ld31, zed, zee, zef, zeg, zeh, zei, zej, zek, zel, zem, zen, zeo, zep, zeq, zer, fa_0, fa_1, zes, bd_0, bd_2, zet, fd_1, zeu, Nat.zero_add, zeroT, lenTk, i_eqlV, q1, q2, ia_K2a, ia_K2b, ld_K1, c, zds, st_Tt, stT_6]
  exact finish_T2 _ _ _ _ _ u _ _ _ _ _ (by first | (simp only [zfi, ↓reduceIte, Nat.reduceEqDiff]; done) | (simp only [zfi, ↓reduceIte, Nat.reduceEqDiff]; rfl)) (by first | (simp only [zfi, ↓reduceIte, Nat.reduceEqDiff]; done) | (simp only [zfi, ↓reduceIte, Nat.reduceEqDiff]; rfl)) (by first | (simp only [zfi, ↓reduceIte, Nat.reduceEqDiff]; done) | (simp only [zfi, ↓reduceIte, Nat.reduceEqDiff]; rfl)) rfl
set_option maxHeartbeats 4000000 in
theorem call2_eq (R d : Nat) (name : List UInt8) (t t' u : T) (h1 : evalFn Tryd.prog cfg0 R d 19 [.tree (.str sErl), .tree (.str name), .tree (.int .i64 2)] = some (.tree (.bool true), [[], [], []]))
    (h2 : evalFn Tryd.prog cfg0 R d 21 [.tree (.sl throws 3 .tight), .tree (.str name)] = some (.tree (.bool false), [[], []]))
    (h3 : evalFn Tryd.prog cfg0 R d 22 [.tree (.str name), .tree (.sl (cellsK [t, t']) 2 .tight)] = some (.tree (.tup [encT u, .bool true]), [[], []]))
    (h4 : evalFn Tryd.prog cfg0 R d 23 [.tree (encT u)] = some (.tree (.int .i64 (nodT u : Int)), [[]])) (h5 : nodT u ≤ 2000) :
    evalFn Tryd.prog cfg0 R (d+1) 10 [.tree (.str sErl), .tree (.str name), .tree (.sl (cellsK [t, t']) 2 .tight)] = some (.tree (.tup [encT u, .agg zErr, .bool true]), [[], [], []]) := by
  rw [evalFn_goP _ Tryd.func10 (by unfold Tryd.f10; rfl) (by unfold Tryd.f10; decide) (Nat.le_of_ble_eq_true (by unfold Tryd.f10; rfl)) (by kernel_rfl)]
  have c1 := fun D st => callA_trees (cfg := cfg0) (d := D) (s := st) (f := 19) (vs := [.str sErl, .str name, .int .i64 2]) rfl h1
  have c2 := fun D st => callA_trees (cfg := cfg0) (d := D) (s := st) (f := 21) (vs := [.sl throws 3 .tight, .str name]) rfl h2
  simp only [throws] at c2
  have c3 := fun D st => callA_trees (cfg := cfg0) (d := D) (s := st) (f := 22) (vs := [.str name, .sl (cellsK [t, t']) 2 .tight]) rfl h3
  have c4 := fun D st => callA_trees (cfg := cfg0) (d := D) (s := st) (f := 23) (vs := [encT u]) rfl h4
  simp only [encT] at c3 c4
  have e1 : ((2 : Nat) : Int) = 2 := rfl
  have w5 : (sErl == ([101, 114, 108, 97, 110, 103] : List UInt8)) = true := by decide
  have q1 : ¬ ((nodT u : Int) > 2000) := by omega
  simp only [prune_seq, prune_cond, prune_block, prune_loop, prune_scope, prune_text, prune_skip, prune_ret, prune_exit, zaa, zab, zac, zad, zae, zaf, zag, zah, zai, zaj, zak, zal, zam, zan, zao, zap, zaq, zar, zas, zat, zau, zav, zaw, zax, zay, zaz, zba, zbb, zbc, zbd, zbe, zbf, zbg, zbh, zbi, zbj, zbk, zbl, zbm, zbn, zbo, zbp, zbq, Nat.reduceBEq, Bool.or_self, Bool.or_false, Bool.or_true, Bool.and_true, Bool.and_false, Bool.true_and, Bool.false_and, Option.isNone_none, Option.isNone_some, Option.isSome_some, Option.isSome_none, zbr, zbs, zbt, zbu, zbv, zbw, zbx, zby, zbz, zca, zcb, zcc, zcd, zce, zcf, zcg, zch, zci, zcj, zck, zcl, zcm, zcn, zco, zcp, zcq, zcr, own0, zcs, zct, zcu, zcv, zcw, zcx, zcy, zcz, zda, zdb, zdc, zdd, zde, zdf, zdg, zdh, zdi, zdj, zdk, zdl, zdm, zdn, zdo, zdp, zdq, zdr, zds, zdt, zdu, Option.getD_some, Option.getD_none, zfb, zfc, zfd, zfe, zff, zfg, zfh, zfi, Option.map_some, Option.map_none, Option.bind_some, List.map_cons, List.map_nil, List.cons_append, List.nil_append, ↓reduceIte, Nat.reduceEqDiff, Nat.reduceAdd, decide_true, decide_false, Bool.true_eq_false, Bool.false_eq_true, env0, List.getElem?_cons_zero, List.getElem?_cons_succ, zdv, zdw, zdx, zdy, zdz, zea, zeb, zec, ia22, ld31, zed, zee, zef, zeg, zeh, zei, zej, zek, zel, zem, zen, zeo, zep, zeq, zer, fa_0, fa_1, zes, bd_0, bd_2, zet, fd_1, zeu, Nat.zero_add, zev, List.toList_toArray, len9, ix9, zew, zex, zey, zez, zfa, zeroT, zeroE, lenTk, e1, i_eqlV, s_eqlS, w5, opA_three64, three64_str, c1, c2, c3, c4, unA_not', Bool.not_true, zds, q1, ldT_u, bdE_, st_Tt, stT_6, st_E, stE_z]
  exact finish_T3 _ _ _ _ _ u _ _ _ _ _ _ _ _ (by first | (simp only [zfi, ↓reduceIte, Nat.reduceEqDiff]; done) | (simp only [zfi, ↓reduceIte, Nat.reduceEqDiff]; rfl)) (by first | (simp only [zfi, ↓reduceIte, Nat.reduceEqDiff]; done) | (simp only [zfi, ↓reduceIte, Nat.reduceEqDiff]; rfl)) (by first | (simp only [zfi, ↓reduceIte, Nat.reduceEqDiff]; done) | (simp only [zfi, ↓reduceIte, Nat.reduceEqDiff]; rfl)) (by first | (simp only [zfi, ↓reduceIte, Nat.reduceEqDiff]; done) | (simp only [zfi, ↓reduceIte, Nat.reduceEqDiff]; rfl)) (by first | (simp only [zfi, ↓reduceIte, Nat.reduceEqDiff]; done) | (simp only [zfi, ↓reduceIte, Nat.reduceEqDiff]; rfl)) rfl
end Go.Ab

/- bif.Call of reverse, ++, list_to_tuple, tuple_to_list. Conditions: so many nodes at most. -/
namespace Go.Ab
open Go.Proofs
set_option maxRecDepth 100000
set_option linter.unusedSimpArgs false

def sPP : List UInt8 := [43, 43]
def sL2t : List UInt8 := [108, 105, 115, 116, 95, 116, 111, 95, 116, 117, 112, 108, 101]
def sT2l : List UInt8 := [116, 117, 112, 108, 101, 95, 116, 111, 95, 108, 105, 115, 116]
def sListsB : List UInt8 := [108, 105, 115, 116, 115]
theorem hasRev : evalFn Tryd.prog cfg0 100000 20 19 [.tree (.str sListsB), .tree (.str sRev), .tree (.int .i64 1)] = some (.tree (.bool true), [[], [], []]) := by kernel_rfl
theorem hasPP : evalFn Tryd.prog cfg0 100000 20 19 [.tree (.str sErl), .tree (.str sPP), .tree (.int .i64 2)] = some (.tree (.bool true), [[], [], []]) := by kernel_rfl
theorem contPP : evalFn Tryd.prog cfg0 100000 20 21 [.tree (.sl throws 3 .tight), .tree (.str sPP)] = some (.tree (.bool false), [[], []]) := by kernel_rfl
theorem hasL2t : evalFn Tryd.prog cfg0 100000 20 19 [.tree (.str sErl), .tree (.str sL2t), .tree (.int .i64 1)] = some (.tree (.bool true), [[], [], []]) := by kernel_rfl
theorem contL2t : evalFn Tryd.prog cfg0 100000 20 21 [.tree (.sl throws 3 .tight), .tree (.str sL2t)] = some (.tree (.bool false), [[], []]) := by kernel_rfl
theorem idxL2t : evalFn Tryd.prog cfg0 100000 20 33 [.tree (.sl five 5 .tight), .tree (.str sL2t)] = some (.tree (.int .i64 (-1)), [[], []]) := by kernel_rfl
theorem hasT2l : evalFn Tryd.prog cfg0 100000 20 19 [.tree (.str sErl), .tree (.str sT2l), .tree (.int .i64 1)] = some (.tree (.bool true), [[], [], []]) := by kernel_rfl
theorem contT2l : evalFn Tryd.prog cfg0 100000 20 21 [.tree (.sl throws 3 .tight), .tree (.str sT2l)] = some (.tree (.bool false), [[], []]) := by kernel_rfl
theorem idxT2l : evalFn Tryd.prog cfg0 100000 20 33 [.tree (.sl five 5 .tight), .tree (.str sT2l)] = some (.tree (.int .i64 (-1)), [[], []]) := by kernel_rfl
theorem oneRev_eq (R d : Nat) (t : T) (us : List T) (h : itemsT t = some us) (hl : us.length ≤ 2001) : evalFn Tryd.prog cfg0 R (d+1) 34 [.tree (.str sRev), .tree (encT t)] = some (.tree (.tup [encT (listT us.reverse nilT'), .bool true]), [[], []]) := by
  have hp : prim0 34 [.tree (.str sRev), .tree (encT t)] = some (.tree (.tup [encT (listT us.reverse nilT'), .bool true]), [[], []]) := by
    unfold prim0
    rw [if_neg (by decide), if_neg (by decide), if_pos (by simp only [isRev, sRev]; decide)]
    exact oneRev1_eq t us h hl
  have hc : cfg0.prim = prim0 := rfl
  rw [evalFn]
  simp only [hc, hp]
/-- A list's terms as a tuple's. -/
def tupJ (us : List T) : T := .mk 5 false .n [] [] 0 (kgOf us) us
theorem bdT_tup (us : List T) : buildA Tryd.prog 29 [(0, .int .i64 5), (4, .sl (cellsK us) us.length (gr (kgOf us)))] = some (.agg (cellsT (tupJ us))) := bdT_4 5 _ _ _
set_option maxHeartbeats 8000000 in
theorem oneL2t_eq (R d : Nat) (hR : 100000 ≤ R) (hd : 20 ≤ d) (t : T) (us : List T) (h : itemsT t = some us) (hl : us.length ≤ 40) : evalFn Tryd.prog cfg0 R (d+1) 34 [.tree (.str sL2t), .tree (encT t)] = some (.tree (.tup [encT (tupJ us), .bool true]), [[], []]) := by
  rw [evalFn_go _ Tryd.func34 (by unfold Tryd.f34; rfl) (by unfold Tryd.f34; decide) (Nat.le_of_ble_eq_true (by unfold Tryd.f34; rfl)) (by kernel_rfl)]
  have w0 : (sL2t == ([108, 105, 115, 116, 95, 116, 111, 95, 116, 117, 112, 108, 101] : List UInt8)) = true := by decide
  have ci := fun D st => callA_trees (cfg := cfg0) (d := D) (s := st) (f := 33) (vs := [.sl five 5 .tight, .str sL2t]) rfl (evalFn_mono (show 100000 ≤ R by omega) 20 d (by omega) _ _ _ idxL2t)
  simp only [five] at ci
  obtain ⟨d', rfl⟩ : ∃ d', d = d' + 6 := ⟨d - 6, by omega⟩
  have ct := fun D st => callA_trees (cfg := cfg0) (d := D) (s := st) (f := 53) (vs := [encT t]) rfl (items_eq R (by omega) (d'+5) t)
  rw [h] at ct
  have q1 : ¬ ((-1 : Int) ≥ 0) := by decide
  have q2 : (us.length : Int) ≤ 40 := by omega
  simp only [encT, itemsV] at ct
  simp only [zaa, zab, zac, zad, zae, zaf, zag, zah, zai, zaj, zak, zal, zam, zan, zao, zap, zaq, zar, zas, zat, zau, zav, zaw, zax, zay, zaz, zba, zbb, zbc, zbd, zbe, zbf, zbg, zbh, zbi, zbj, zbk, zbl, zbm, zbn, zbo, zbp, zbq, Nat.reduceBEq, Bool.or_self, Bool.or_false, Bool.or_true, Bool.and_true, Bool.and_false, Bool.true_and, Bool.false_and, Option.isNone_none, Option.isNone_some, Option.isSome_some, Option.isSome_none, zbr, zbs, zbt, zbu, zbv, zbw, zbx, zby, zbz, zca, zcb, zcc, zcd, zce, zcf, zcg, zch, zci, zcj, zck, zcl, zcm, zcn, zco, zcp, zcq, zcr, own0, zcs, zct, zcu, zcv, zcw, zcx, zcy, zcz, zda, zdb, zdc, zdd, zde, zdf, zdg, zdh, zdi, zdj, zdk, zdl, zdm, zdn, zdo, zdp, zdq, zdr, zds, zdt, zdu, Option.getD_some, Option.getD_none, zfb, zfc, zfd, zfe, zff, zfg, zfh, zfi, Option.map_some, Option.map_none, Option.bind_some, List.map_cons, List.map_nil, List.cons_append, List.nil_append, ↓reduceIte, Nat.reduceEqDiff, Nat.reduceAdd, decide_true, decide_false, Bool.true_eq_false, Bool.false_eq_true, env0, List.getElem?_cons_zero, List.getElem?_cons_succ, zdv, zdw, zdx, zdy, zdz, zea, zeb, zec, ia22, ld31, zed, zee, zef, zeg, zeh, zei, zej, zek, zel, zem, zen, zeo, zep, zeq, zer, fa_0, fa_1, zes, bd_0, bd_2, zet, fd_1, zeu, Nat.zero_add, zev, List.toList_toArray, len9, ix9, zew, zex, zey, zez, zfa, zeroT, encT, opA_five64, five64_str, ci, q1, ct, ldT_u, s_eqlS, w0, lenTk, q2, bdT_tup, zds, st_Tt, stT_6]
  exact finish_T2 _ _ _ _ _ (tupJ us) _ _ _ _ _ (by first | (simp only [zfi, ↓reduceIte, Nat.reduceEqDiff]; done) | (simp only [zfi, ↓reduceIte, Nat.reduceEqDiff]; rfl)) (by first | (simp only [zfi, ↓reduceIte, Nat.reduceEqDiff]; done) | (simp only [zfi, ↓reduceIte, Nat.reduceEqDiff]; rfl)) (by first | (simp only [zfi, ↓reduceIte, Nat.reduceEqDiff]; done) | (simp only [zfi, ↓reduceIte, Nat.reduceEqDiff]; rfl)) rfl
theorem items_5 (b : Bool) (lg : Gk) (l : List Nat) (s : List UInt8) (m : Int) (kg : Gk) (ks : List T) : itemsT (.mk 5 b lg l s m kg ks) = none := rfl
set_option maxHeartbeats 8000000 in
theorem oneT2l_eq (R d : Nat) (hR : 100000 ≤ R) (hd : 20 ≤ d) (us : List T) (hl : us.length ≤ 1000) : evalFn Tryd.prog cfg0 R (d+1) 34 [.tree (.str sT2l), .tree (encT (tupJ us))] = some (.tree (.tup [encT (listT us nilT'), .bool true]), [[], []]) := by
  rw [evalFn_go _ Tryd.func34 (by unfold Tryd.f34; rfl) (by unfold Tryd.f34; decide) (Nat.le_of_ble_eq_true (by unfold Tryd.f34; rfl)) (by kernel_rfl)]
  have w0 : (sT2l == ([108, 105, 115, 116, 95, 116, 111, 95, 116, 117, 112, 108, 101] : List UInt8)) = false := by decide
  have w1 : (sT2l == ([114, 101, 118, 101, 114, 115, 101] : List UInt8)) = false := by decide
  have w2 : (sT2l == ([116, 117, 112, 108, 101, 95, 116, 111, 95, 108, 105, 115, 116] : List UInt8)) = true := by decide
  have ci := fun D st => callA_trees (cfg := cfg0) (d := D) (s := st) (f := 33) (vs := [.sl five 5 .tight, .str sT2l]) rfl (evalFn_mono (show 100000 ≤ R by omega) 20 d (by omega) _ _ _ idxT2l)
  simp only [five] at ci
  obtain ⟨d', rfl⟩ : ∃ d', d = d' + 6 := ⟨d - 6, by omega⟩
  have ct := fun D st => callA_trees (cfg := cfg0) (d := D) (s := st) (f := 53) (vs := [encT (tupJ us)]) rfl (items_eq R (by omega) (d'+5) (tupJ us))
  have hi : itemsT (tupJ us) = none := items_5 _ _ _ _ _ _ _
  rw [hi] at ct
  have hgr : (us = [] ∧ gr (kgOf us) = .nil) ∨ (us ≠ [] ∧ gr (kgOf us) = .loose) := by
    by_cases h : us = []
    · exact .inl ⟨h, by rw [kgOf, if_pos h]; rfl⟩
    · exact .inr ⟨h, by rw [kgOf, if_neg h]; rfl⟩
  have hT : isTree (.sl (cellsK us) us.length (gr (kgOf us))) = true := by rcases hgr with ⟨_, e⟩ | ⟨_, e⟩ <;> rw [e] <;> rfl
  have ce := callQ_trees (f := 56) (vs := []) rfl (empty_eq R (d'+5))
  have cl := callQ_trees (f := 55) (vs := [.sl (cellsK us) us.length (gr (kgOf us)), encT nilT']) (by simp only [List.all_cons, hT]; rfl) (tList_eq R (d'+5) us (gr (kgOf us)) nilT' (by omega))
  have q1 : ¬ ((-1 : Int) ≥ 0) := by decide
  simp only [encT, cellsT, itemsV, tupJ] at ct cl ce
  simp only [zaa, zab, zac, zad, zae, zaf, zag, zah, zai, zaj, zak, zal, zam, zan, zao, zap, zaq, zar, zas, zat, zau, zav, zaw, zax, zay, zaz, zba, zbb, zbc, zbd, zbe, zbf, zbg, zbh, zbi, zbj, zbk, zbl, zbm, zbn, zbo, zbp, zbq, Nat.reduceBEq, Bool.or_self, Bool.or_false, Bool.or_true, Bool.and_true, Bool.and_false, Bool.true_and, Bool.false_and, Option.isNone_none, Option.isNone_some, Option.isSome_some, Option.isSome_none, zbr, zbs, zbt, zbu, zbv, zbw, zbx, zby, zbz, zca, zcb, zcc, zcd, zce, zcf, zcg, zch, zci, zcj, zck, zcl, zcm, zcn, zco, zcp, zcq, zcr, own0, zcs, zct, zcu, zcv, zcw, zcx, zcy, zcz, zda, zdb, zdc, zdd, zde, zdf, zdg, zdh, zdi, zdj, zdk, zdl, zdm, zdn, zdo, zdp, zdq, zdr, zds, zdt, zdu, Option.getD_some, Option.getD_none, zfb, zfc, zfd, zfe, zff, zfg, zfh, zfi, Option.map_some, Option.map_none, Option.bind_some, List.map_cons, List.map_nil, List.cons_append, List.nil_append, ↓reduceIte, Nat.reduceEqDiff, Nat.reduceAdd, decide_true, decide_false, Bool.true_eq_false, Bool.false_eq_true, env0, List.getElem?_cons_zero, List.getElem?_cons_succ, zdv, zdw, zdx, zdy, zdz, zea, zeb, zec, ia22, ld31, zed, zee, zef, zeg, zeh, zei, zej, zek, zel, zem, zen, zeo, zep, zeq, zer, fa_0, fa_1, zes, bd_0, bd_2, zet, fd_1, zeu, Nat.zero_add, zev, List.toList_toArray, len9, ix9, zew, zex, zey, zez, zfa, zeroT, tupJ, encT, opA_five64, five64_str, ci, q1, ct, cellsT, ldT_a, ldT_0, ldT_4, zds, s_eqlS, w0, w1, w2, i_eqlV, Int.reduceBEq, faT_0, faT_4, ce, cl, st_Tt, stT_6]
  exact finish_T2 _ _ _ _ _ (listT us nilT') _ _ _ _ _ (by first | (simp only [zfi, ↓reduceIte, Nat.reduceEqDiff]; done) | (simp only [zfi, ↓reduceIte, Nat.reduceEqDiff]; rfl)) (by first | (simp only [zfi, ↓reduceIte, Nat.reduceEqDiff]; done) | (simp only [zfi, ↓reduceIte, Nat.reduceEqDiff]; rfl)) (by first | (simp only [zfi, ↓reduceIte, Nat.reduceEqDiff]; done) | (simp only [zfi, ↓reduceIte, Nat.reduceEqDiff]; rfl)) rfl
set_option maxHeartbeats 8000000 in
theorem twoPP_eq (R d : Nat) (hR : 100000 ≤ R) (a b : T) (us : List T) (h : itemsT a = some us) (hl : us.length ≤ 2001) : evalFn Tryd.prog cfg0 R (d+3) 35 [.tree (.str sPP), .tree (encT a), .tree (encT b)] = some (.tree (.tup [encT (listT us b), .bool true]), [[], [], []]) := by
  rw [evalFn_go _ Tryd.func35 (by unfold Tryd.f35; rfl) (by unfold Tryd.f35; decide) (Nat.le_of_ble_eq_true (by unfold Tryd.f35; rfl)) (by kernel_rfl)]
  have w0 : (sPP == ([101, 108, 101, 109, 101, 110, 116] : List UInt8)) = false := by decide
  have w1 : (sPP == ([109, 101, 109, 98, 101, 114] : List UInt8)) = false := by decide
  have w2 : (sPP == ([109, 97, 120] : List UInt8)) = false := by decide
  have w3 : (sPP == ([109, 105, 110] : List UInt8)) = false := by decide
  have ct := fun D st => callA_trees (cfg := cfg0) (d := D) (s := st) (f := 53) (vs := [encT a]) rfl (items_eq R (by omega) (d+1) a)
  rw [h] at ct
  have hT : isTree (.sl (cellsK us) us.length (gr (kgOf us))) = true := by
    by_cases h : us = []
    · rw [kgOf, if_pos h]; rfl
    · rw [kgOf, if_neg h]; rfl
  have cl := fun D st => callA_trees (cfg := cfg0) (d := D) (s := st) (f := 55) (vs := [.sl (cellsK us) us.length (gr (kgOf us)), encT b]) (by simp only [List.all_cons, hT]; rfl) (tList_eq R (d+1) us (gr (kgOf us)) b (by omega))
  simp only [encT, itemsV] at ct cl
  simp only [zaa, zab, zac, zad, zae, zaf, zag, zah, zai, zaj, zak, zal, zam, zan, zao, zap, zaq, zar, zas, zat, zau, zav, zaw, zax, zay, zaz, zba, zbb, zbc, zbd, zbe, zbf, zbg, zbh, zbi, zbj, zbk, zbl, zbm, zbn, zbo, zbp, zbq, Nat.reduceBEq, Bool.or_self, Bool.or_false, Bool.or_true, Bool.and_true, Bool.and_false, Bool.true_and, Bool.false_and, Option.isNone_none, Option.isNone_some, Option.isSome_some, Option.isSome_none, zbr, zbs, zbt, zbu, zbv, zbw, zbx, zby, zbz, zca, zcb, zcc, zcd, zce, zcf, zcg, zch, zci, zcj, zck, zcl, zcm, zcn, zco, zcp, zcq, zcr, own0, zcs, zct, zcu, zcv, zcw, zcx, zcy, zcz, zda, zdb, zdc, zdd, zde, zdf, zdg, zdh, zdi, zdj, zdk, zdl, zdm, zdn, zdo, zdp, zdq, zdr, zds, zdt, zdu, Option.getD_some, Option.getD_none, zfb, zfc, zfd, zfe, zff, zfg, zfh, zfi, Option.map_some, Option.map_none, Option.bind_some, List.map_cons, List.map_nil, List.cons_append, List.nil_append, ↓reduceIte, Nat.reduceEqDiff, Nat.reduceAdd, decide_true, decide_false, Bool.true_eq_false, Bool.false_eq_true, env0, List.getElem?_cons_zero, List.getElem?_cons_succ, zdv, zdw, zdx, zdy, zdz, zea, zeb, zec, ia22, ld31, zed, zee, zef, zeg, zeh, zei, zej, zek, zel, zem, zen, zeo, zep, zeq, zer, fa_0, fa_1, zes, bd_0, bd_2, zet, fd_1, zeu, Nat.zero_add, zev, List.toList_toArray, len9, ix9, zew, zex, zey, zez, zfa, zeroT, encT, ldT_u, s_eqlS, w0, w1, w2, w3, ct, cl, zds, st_Tt, stT_6]
  exact finish_T2 _ _ _ _ _ (listT us b) _ _ _ _ _ (by first | (simp only [zfi, ↓reduceIte, Nat.reduceEqDiff]; done) | (simp only [zfi, ↓reduceIte, Nat.reduceEqDiff]; rfl)) (by first | (simp only [zfi, ↓reduceIte, Nat.reduceEqDiff]; done) | (simp only [zfi, ↓reduceIte, Nat.reduceEqDiff]; rfl)) (by first | (simp only [zfi, ↓reduceIte, Nat.reduceEqDiff]; done) | (simp only [zfi, ↓reduceIte, Nat.reduceEqDiff]; rfl)) rfl
set_option maxHeartbeats 4000000 in
theorem callR_eq (R d : Nat) (name : List UInt8) (t u : T) (h1 : evalFn Tryd.prog cfg0 R d 19 [.tree (.str sListsB), .tree (.str name), .tree (.int .i64 1)] = some (.tree (.bool true), [[], [], []]))
    (h3 : evalFn Tryd.prog cfg0 R d 22 [.tree (.str name), .tree (.sl (cellsK [t]) 1 .tight)] = some (.tree (.tup [encT u, .bool true]), [[], []]))
    (h4 : evalFn Tryd.prog cfg0 R d 23 [.tree (encT u)] = some (.tree (.int .i64 (nodT u : Int)), [[]])) (h5 : nodT u ≤ 2000) :
    evalFn Tryd.prog cfg0 R (d+1) 10 [.tree (.str sListsB), .tree (.str name), .tree (.sl (cellsK [t]) 1 .tight)] = some (.tree (.tup [encT u, .agg zErr, .bool true]), [[], [], []]) := by
  rw [evalFn_goP _ Tryd.func10 (by unfold Tryd.f10; rfl) (by unfold Tryd.f10; decide) (Nat.le_of_ble_eq_true (by unfold Tryd.f10; rfl)) (by kernel_rfl)]
  have c1 := fun D st => callA_trees (cfg := cfg0) (d := D) (s := st) (f := 19) (vs := [.str sListsB, .str name, .int .i64 1]) rfl h1
  have c3 := fun D st => callA_trees (cfg := cfg0) (d := D) (s := st) (f := 22) (vs := [.str name, .sl (cellsK [t]) 1 .tight]) rfl h3
  have c4 := fun D st => callA_trees (cfg := cfg0) (d := D) (s := st) (f := 23) (vs := [encT u]) rfl h4
  simp only [encT] at c3 c4
  have e1 : ((1 : Nat) : Int) = 1 := rfl
  have w5 : (sListsB == ([101, 114, 108, 97, 110, 103] : List UInt8)) = false := by decide
  have q1 : ¬ ((nodT u : Int) > 2000) := by omega
  simp only [prune_seq, prune_cond, prune_block, prune_loop, prune_scope, prune_text, prune_skip, prune_ret, prune_exit, zaa, zab, zac, zad, zae, zaf, zag, zah, zai, zaj, zak, zal, zam, zan, zao, zap, zaq, zar, zas, zat, zau, zav, zaw, zax, zay, zaz, zba, zbb, zbc, zbd, zbe, zbf, zbg, zbh, zbi, zbj, zbk, zbl, zbm, zbn, zbo, zbp, zbq, Nat.reduceBEq, Bool.or_self, Bool.or_false, Bool.or_true, Bool.and_true, Bool.and_false, Bool.true_and, Bool.false_and, Option.isNone_none, Option.isNone_some, Option.isSome_some, Option.isSome_none, zbr, zbs, zbt, zbu, zbv, zbw, zbx, zby, zbz, zca, zcb, zcc, zcd, zce, zcf, zcg, zch, zci, zcj, zck, zcl, zcm, zcn, zco, zcp, zcq, zcr, own0, zcs, zct, zcu, zcv, zcw, zcx, zcy, zcz, zda, zdb, zdc, zdd, zde, zdf, zdg, zdh, zdi, zdj, zdk, zdl, zdm, zdn, zdo, zdp, zdq, zdr, zds, zdt, zdu, Option.getD_some, Option.getD_none, zfb, zfc, zfd, zfe, zff, zfg, zfh, zfi, Option.map_some, Option.map_none, Option.bind_some, List.map_cons, List.map_nil, List.cons_append, List.nil_append, ↓reduceIte, Nat.reduceEqDiff, Nat.reduceAdd, decide_true, decide_false, Bool.true_eq_false, Bool.false_eq_true, env0, List.getElem?_cons_zero, List.getElem?_cons_succ, zdv, zdw, zdx, zdy, zdz, zea, zeb, zec, ia22, ld31, zed, zee, zef, zeg, zeh, zei, zej, zek, zel, zem, zen, zeo, zep, zeq, zer, fa_0, fa_1, zes, bd_0, bd_2, zet, fd_1, zeu, Nat.zero_add, zev, List.toList_toArray, len9, ix9, zew, zex, zey, zez, zfa, zeroT, zeroE, lenTk, e1, i_eqlV, s_eqlS, w5, opA_three64, three64_str, c1, c3, c4, unA_not', Bool.not_true, zds, q1, ldT_u, bdE_, st_Tt, stT_6, st_E, stE_z]
  exact finish_T3 _ _ _ _ _ u _ _ _ _ _ _ _ _ (by first | (simp only [zfi, ↓reduceIte, Nat.reduceEqDiff]; done) | (simp only [zfi, ↓reduceIte, Nat.reduceEqDiff]; rfl)) (by first | (simp only [zfi, ↓reduceIte, Nat.reduceEqDiff]; done) | (simp only [zfi, ↓reduceIte, Nat.reduceEqDiff]; rfl)) (by first | (simp only [zfi, ↓reduceIte, Nat.reduceEqDiff]; done) | (simp only [zfi, ↓reduceIte, Nat.reduceEqDiff]; rfl)) (by first | (simp only [zfi, ↓reduceIte, Nat.reduceEqDiff]; done) | (simp only [zfi, ↓reduceIte, Nat.reduceEqDiff]; rfl)) (by first | (simp only [zfi, ↓reduceIte, Nat.reduceEqDiff]; done) | (simp only [zfi, ↓reduceIte, Nat.reduceEqDiff]; rfl)) rfl
end Go.Ab

/- relictlaw19.few, relictref03.Nodes; slices of rows of terms, put behind one another. Conditions: lengths in range. -/
namespace Go.Ab
open Go.Proofs
set_option maxRecDepth 100000
set_option linter.unusedSimpArgs false

def fewR : Nat → List T → Bool
  | 0, _ => true
  | _ + 1, [] => true
  | n + 1, t :: r => decide (lgT t 100 ≥ 0) && fewR n r
theorem fewR_nil (n : Nat) : fewR n [] = true := by cases n <;> rfl
theorem fewR_all : ∀ (n : Nat) (ks : List T), fewR n ks = true → ks.length ≤ n → ∀ t ∈ ks, lgT t 100 ≥ 0
  | _, [], _, _, t, h => by cases h
  | 0, _ :: _, _, hl, _, _ => by simp at hl
  | n + 1, x :: r, h, hl, t, ht => by
    simp only [fewR, Bool.and_eq_true, decide_eq_true_eq] at h
    rcases List.mem_cons.mp ht with rfl | ht
    · exact h.1
    · exact fewR_all n r h.2 (by simpa using hl) t ht
set_option maxHeartbeats 4000000 in
theorem fewB_eq (R d : Nat) (hR : 2000 ≤ R) (hR2 : R ≤ 9223372036854775808) (hd : 103 ≤ d) (ks : List T) (g : Grip) (hb : bigK R ks) (hf : fewK R ks) :
    evalFn Tryd.prog cfg0 R (d+1) 6 [.tree (.sl (cellsK ks) ks.length g)] = some (.tree (.bool (fewR 12 ks && decide (ks.length ≤ 12))), [[]]) := by
  rw [evalFn_go _ Tryd.func6 (by unfold Tryd.f6; rfl) (by unfold Tryd.f6; decide) (Nat.le_of_ble_eq_true (by unfold Tryd.f6; rfl)) (by kernel_rfl)]
  obtain ⟨d', rfl⟩ : ∃ d', d = d' + 1 := ⟨d - 1, by omega⟩
  simp only [zaa, zab, zac, zad, zae, zaf, zag, zah, zai, zaj, zak, zal, zam, zan, zao, zap, zaq, zar, zas, zat, zau, zav, zaw, zax, zay, zaz, zba, zbb, zbc, zbd, zbe, zbf, zbg, zbh, zbi, zbj, zbk, zbl, zbm, zbn, zbo, zbp, zbq, Nat.reduceBEq, Bool.or_self, Bool.or_false, Bool.or_true, Bool.and_true, Bool.and_false, Bool.true_and, Bool.false_and, Option.isNone_none, Option.isNone_some, Option.isSome_some, Option.isSome_none, zbr, zbs, zbt, zbu, zbv, zbw, zbx, zby, zbz, zca, zcb, zcc, zcd, zce, zcf, zcg, zch, zci, zcj, zck, zcl, zcm, zcn, zco, zcp, zcq, zcr, own0, zcs, zct, zcu, zcv, zcw, zcx, zcy, zcz, zda, zdb, zdc, zdd, zde, zdf, zdg, zdh, zdi, zdj, zdk, zdl, zdm, zdn, zdo, zdp, zdq, zdr, zds, zdt, zdu, Option.getD_some, Option.getD_none, zfb, zfc, zfd, zfe, zff, zfg, zfh, zfi, Option.map_some, Option.map_none, Option.bind_some, List.map_cons, List.map_nil, List.cons_append, List.nil_append, ↓reduceIte, Nat.reduceEqDiff, Nat.reduceAdd, decide_true, decide_false, Bool.true_eq_false, Bool.false_eq_true, env0, List.getElem?_cons_zero, List.getElem?_cons_succ, zdv, zdw, zdx, zdy, zdz, zea, zeb, zec, ia22, ld31, zed, zee, zef, zeg, zeh, zei, zej, zek, zel, zem, zen, zeo, zep, zeq, zer, fa_0, fa_1, zes, bd_0, bd_2, zet, fd_1, zeu, Nat.zero_add, den_loop]
  refine loop_ends (X := Nat) (fun i env st => env 0 = .sl (cellsK ks) ks.length g ∧ env 3 = .int .i64 (i : Int) ∧ i ≤ ks.length ∧ i ≤ 12 ∧ fewR (12 - i) (ks.drop i) = fewR 12 ks) (fun i => 12 - i) (fun _ => (.tree (.bool (fewR 12 ks && decide (ks.length ≤ 12))), [[]])) ?_ R 0 _ _ (by omega) ⟨(by first | (simp only [zfi, ↓reduceIte, Nat.reduceEqDiff, env0, List.getElem?_cons_zero]; done) | (simp only [zfi, ↓reduceIte, Nat.reduceEqDiff, env0, List.getElem?_cons_zero]; rfl)), (by first | (simp only [zfi, ↓reduceIte, Nat.reduceEqDiff]; done) | (simp only [zfi, ↓reduceIte, Nat.reduceEqDiff]; rfl)), Nat.zero_le _, Nat.zero_le _, rfl⟩
  intro rr i hr ih env st ⟨e0, e3, hi, hi2, hc⟩
  cases hdr : ks.drop i with
  | nil =>
    have hil : i = ks.length := by have := congrArg List.length hdr; simp only [List.length_drop, List.length_nil] at this; omega
    have q1 : ¬ (i : Int) < (ks.length : Int) := by omega
    have q2 : (ks.length : Int) ≤ 12 := by omega
    have q3 : ks.length ≤ 12 := by omega
    rw [hdr, fewR_nil] at hc
    rw [← hc]
    simp only [zaa, zab, zac, zad, zae, zaf, zag, zah, zai, zaj, zak, zal, zam, zan, zao, zap, zaq, zar, zas, zat, zau, zav, zaw, zax, zay, zaz, zba, zbb, zbc, zbd, zbe, zbf, zbg, zbh, zbi, zbj, zbk, zbl, zbm, zbn, zbo, zbp, zbq, Nat.reduceBEq, Bool.or_self, Bool.or_false, Bool.or_true, Bool.and_true, Bool.and_false, Bool.true_and, Bool.false_and, Option.isNone_none, Option.isNone_some, Option.isSome_some, Option.isSome_none, zbr, zbs, zbt, zbu, zbv, zbw, zbx, zby, zbz, zca, zcb, zcc, zcd, zce, zcf, zcg, zch, zci, zcj, zck, zcl, zcm, zcn, zco, zcp, zcq, zcr, own0, zcs, zct, zcu, zcv, zcw, zcx, zcy, zcz, zda, zdb, zdc, zdd, zde, zdf, zdg, zdh, zdi, zdj, zdk, zdl, zdm, zdn, zdo, zdp, zdq, zdr, zds, zdt, zdu, Option.getD_some, Option.getD_none, zfb, zfc, zfd, zfe, zff, zfg, zfh, zfi, Option.map_some, Option.map_none, Option.bind_some, List.map_cons, List.map_nil, List.cons_append, List.nil_append, ↓reduceIte, Nat.reduceEqDiff, Nat.reduceAdd, decide_true, decide_false, Bool.true_eq_false, Bool.false_eq_true, zdv, zdw, zdx, zdy, zdz, zea, zeb, zec, ia22, ld31, zed, zee, zef, zeg, zeh, zei, zej, zek, zel, zem, zen, zeo, zep, zeq, zer, fa_0, fa_1, zes, bd_0, bd_2, zet, fd_1, zeu, Nat.zero_add, e0, e3, lenTk, q1, q2, q3]
    exact finish_b _ _ _ _ _ _ _ (by first | (simp only [zfi, ↓reduceIte, Nat.reduceEqDiff]; done) | (simp only [zfi, ↓reduceIte, Nat.reduceEqDiff]; rfl)) rfl
  | cons kid r =>
    have hil : i < ks.length := by have := congrArg List.length hdr; simp only [List.length_drop, List.length_cons] at this; omega
    have q1 : (i : Int) < (ks.length : Int) := by omega
    by_cases h12 : i = 12
    · have q2 : ¬ (i : Int) < 12 := by omega
      have q3 : ¬ ((ks.length : Int) ≤ 12) := by omega
      have q4 : ¬ (ks.length ≤ 12) := by omega
      rw [decide_eq_false q4, Bool.and_false]
      simp only [zaa, zab, zac, zad, zae, zaf, zag, zah, zai, zaj, zak, zal, zam, zan, zao, zap, zaq, zar, zas, zat, zau, zav, zaw, zax, zay, zaz, zba, zbb, zbc, zbd, zbe, zbf, zbg, zbh, zbi, zbj, zbk, zbl, zbm, zbn, zbo, zbp, zbq, Nat.reduceBEq, Bool.or_self, Bool.or_false, Bool.or_true, Bool.and_true, Bool.and_false, Bool.true_and, Bool.false_and, Option.isNone_none, Option.isNone_some, Option.isSome_some, Option.isSome_none, zbr, zbs, zbt, zbu, zbv, zbw, zbx, zby, zbz, zca, zcb, zcc, zcd, zce, zcf, zcg, zch, zci, zcj, zck, zcl, zcm, zcn, zco, zcp, zcq, zcr, own0, zcs, zct, zcu, zcv, zcw, zcx, zcy, zcz, zda, zdb, zdc, zdd, zde, zdf, zdg, zdh, zdi, zdj, zdk, zdl, zdm, zdn, zdo, zdp, zdq, zdr, zds, zdt, zdu, Option.getD_some, Option.getD_none, zfb, zfc, zfd, zfe, zff, zfg, zfh, zfi, Option.map_some, Option.map_none, Option.bind_some, List.map_cons, List.map_nil, List.cons_append, List.nil_append, ↓reduceIte, Nat.reduceEqDiff, Nat.reduceAdd, decide_true, decide_false, Bool.true_eq_false, Bool.false_eq_true, zdv, zdw, zdx, zdy, zdz, zea, zeb, zec, ia22, ld31, zed, zee, zef, zeg, zeh, zei, zej, zek, zel, zem, zen, zeo, zep, zeq, zer, fa_0, fa_1, zes, bd_0, bd_2, zet, fd_1, zeu, Nat.zero_add, e0, e3, lenTk, q1, q2, q3]
      exact finish_b _ _ _ _ _ _ _ (by first | (simp only [zfi, ↓reduceIte, Nat.reduceEqDiff]; done) | (simp only [zfi, ↓reduceIte, Nat.reduceEqDiff]; rfl)) rfl
    have q2 : (i : Int) < 12 := by omega
    obtain ⟨n, hn⟩ : ∃ n, 12 - i = n + 1 := ⟨11 - i, by omega⟩
    rw [hdr, hn] at hc
    simp only [fewR] at hc
    have kb := bigK_at R ks i kid r hdr hb
    have kf := fewK_at R ks i kid r hdr hf
    have cli := fun D st => callA_trees (cfg := cfg0) (d := D) (s := st) (f := 18) (vs := [encT kid, .int .i64 100]) rfl (Light_eq R hR hR2 d' kid 100 (by decide) (by decide) (by omega) kb kf)
    have ia := fun st => ia_K st ks g i hil
    rw [hdr] at ia
    have ld := fun st => ld_K st kid r
    simp only [encT] at cli ld
    by_cases hg : lgT kid 100 ≥ 0
    · rw [decide_eq_true hg] at cli hc
      rw [Bool.true_and] at hc
      have f5 := i_add Tryd.prog 3 (i : Int) 1 (by omega) (by omega)
      simp only [zaa, zab, zac, zad, zae, zaf, zag, zah, zai, zaj, zak, zal, zam, zan, zao, zap, zaq, zar, zas, zat, zau, zav, zaw, zax, zay, zaz, zba, zbb, zbc, zbd, zbe, zbf, zbg, zbh, zbi, zbj, zbk, zbl, zbm, zbn, zbo, zbp, zbq, Nat.reduceBEq, Bool.or_self, Bool.or_false, Bool.or_true, Bool.and_true, Bool.and_false, Bool.true_and, Bool.false_and, Option.isNone_none, Option.isNone_some, Option.isSome_some, Option.isSome_none, zbr, zbs, zbt, zbu, zbv, zbw, zbx, zby, zbz, zca, zcb, zcc, zcd, zce, zcf, zcg, zch, zci, zcj, zck, zcl, zcm, zcn, zco, zcp, zcq, zcr, own0, zcs, zct, zcu, zcv, zcw, zcx, zcy, zcz, zda, zdb, zdc, zdd, zde, zdf, zdg, zdh, zdi, zdj, zdk, zdl, zdm, zdn, zdo, zdp, zdq, zdr, zds, zdt, zdu, Option.getD_some, Option.getD_none, zfb, zfc, zfd, zfe, zff, zfg, zfh, zfi, Option.map_some, Option.map_none, Option.bind_some, List.map_cons, List.map_nil, List.cons_append, List.nil_append, ↓reduceIte, Nat.reduceEqDiff, Nat.reduceAdd, decide_true, decide_false, Bool.true_eq_false, Bool.false_eq_true, zdv, zdw, zdx, zdy, zdz, zea, zeb, zec, ia22, ld31, zed, zee, zef, zeg, zeh, zei, zej, zek, zel, zem, zen, zeo, zep, zeq, zer, fa_0, fa_1, zes, bd_0, bd_2, zet, fd_1, zeu, Nat.zero_add, e0, e3, lenTk, q1, q2, ia, ld, cli, unA_not', Bool.not_true, f5]
      exact ih (i + 1) _ _ (by omega) rfl ⟨(by first | (simp only [zfi, ↓reduceIte, Nat.reduceEqDiff, e0]; done) | (simp only [zfi, ↓reduceIte, Nat.reduceEqDiff, e0]; rfl)), (by first | (simp only [zfi, ↓reduceIte, Nat.reduceEqDiff]; done) | (simp only [zfi, ↓reduceIte, Nat.reduceEqDiff]; rfl)), by omega, by omega, by rw [drop_next hdr, show 12 - (i + 1) = n by omega]; exact hc⟩
    · rw [decide_eq_false hg] at cli hc
      rw [Bool.false_and] at hc
      rw [← hc, Bool.false_and]
      simp only [zaa, zab, zac, zad, zae, zaf, zag, zah, zai, zaj, zak, zal, zam, zan, zao, zap, zaq, zar, zas, zat, zau, zav, zaw, zax, zay, zaz, zba, zbb, zbc, zbd, zbe, zbf, zbg, zbh, zbi, zbj, zbk, zbl, zbm, zbn, zbo, zbp, zbq, Nat.reduceBEq, Bool.or_self, Bool.or_false, Bool.or_true, Bool.and_true, Bool.and_false, Bool.true_and, Bool.false_and, Option.isNone_none, Option.isNone_some, Option.isSome_some, Option.isSome_none, zbr, zbs, zbt, zbu, zbv, zbw, zbx, zby, zbz, zca, zcb, zcc, zcd, zce, zcf, zcg, zch, zci, zcj, zck, zcl, zcm, zcn, zco, zcp, zcq, zcr, own0, zcs, zct, zcu, zcv, zcw, zcx, zcy, zcz, zda, zdb, zdc, zdd, zde, zdf, zdg, zdh, zdi, zdj, zdk, zdl, zdm, zdn, zdo, zdp, zdq, zdr, zds, zdt, zdu, Option.getD_some, Option.getD_none, zfb, zfc, zfd, zfe, zff, zfg, zfh, zfi, Option.map_some, Option.map_none, Option.bind_some, List.map_cons, List.map_nil, List.cons_append, List.nil_append, ↓reduceIte, Nat.reduceEqDiff, Nat.reduceAdd, decide_true, decide_false, Bool.true_eq_false, Bool.false_eq_true, zdv, zdw, zdx, zdy, zdz, zea, zeb, zec, ia22, ld31, zed, zee, zef, zeg, zeh, zei, zej, zek, zel, zem, zen, zeo, zep, zeq, zer, fa_0, fa_1, zes, bd_0, bd_2, zet, fd_1, zeu, Nat.zero_add, e0, e3, lenTk, q1, q2, ia, ld, cli, unA_not', Bool.not_false]
      exact finish_b _ _ _ _ _ _ _ (by first | (simp only [zfi, ↓reduceIte, Nat.reduceEqDiff]; done) | (simp only [zfi, ↓reduceIte, Nat.reduceEqDiff]; rfl)) rfl
/-! ### Rows, sliced and put behind one another -/
end Go.Ab

/- The statement BifOrders, its end. Conditions: terms that may be. -/
namespace Go.Ab
open Go.Proofs
set_option maxRecDepth 100000
set_option linter.unusedSimpArgs false

mutual
theorem few_node (N : Nat) : ∀ t : T, leanT t → nodT t ≤ N → 41 ≤ N → fewT (N + 1) t
  | .mk k b lg l s m kg ks, h, hn, h41 => by
    simp only [leanT] at h
    simp only [nodT] at hn
    have := nodK_len ks
    simp only [fewT]
    exact ⟨by omega, by omega, few_nodeK N ks h.2.2 (by omega) h41⟩
theorem few_nodeK (N : Nat) : ∀ ks : List T, leanK ks → nodK ks ≤ N → 41 ≤ N → fewK (N + 1) ks
  | [], _, _, _ => by simp only [fewK]
  | t :: r, h, hn, h41 => by
    simp only [leanK] at h
    simp only [nodK] at hn
    have := nod_pos t
    simp only [fewK]
    exact ⟨few_node N t h.1 (by omega) h41, few_nodeK N r h.2 (by omega) h41⟩
end
mutual
theorem fewT_le {m m' : Nat} (h : m ≤ m') : ∀ t : T, fewT m t → fewT m' t
  | .mk k b lg l s n kg ks, ht => by
    simp only [fewT] at ht ⊢
    exact ⟨by omega, by omega, fewK_le h ks ht.2.2⟩
theorem fewK_le {m m' : Nat} (h : m ≤ m') : ∀ ks : List T, fewK m ks → fewK m' ks
  | [], _ => by simp only [fewK]
  | t :: r, ht => by
    simp only [fewK] at ht ⊢
    exact ⟨fewT_le h t ht.1, fewK_le h r ht.2⟩
end
section
variable (R : Nat) (hR : 1000000 ≤ R) (a b : T) (l : List T) (n : Int) (ga : goodT a) (gb : goodT b) (na : nodT a ≤ 200) (nb : nodT b ≤ 200)
include hR na nb
omit na nb in
include ga in
end
end Go.Ab

/- The statement BifLists. Conditions: terms; limbs, texts in range. -/
namespace Go.Ab
open Go.Proofs
set_option maxRecDepth 100000
set_option linter.unusedSimpArgs false

theorem listT_app : ∀ (ks ls : List T) (t : T), listT ks (listT ls t) = listT (ks ++ ls) t
  | [], _, _ => rfl
  | k :: ks, ls, t => by simp only [listT, List.cons_append, listT_app ks ls t]
theorem few_lsJ (m : Nat) (hm : 3 ≤ m) (ks : List T) (h : fewK m ks) : fewT m (listT ks nilT') := few_listT (by omega) ks nilT' h (by simp only [nilT', fewT, fewK, List.length_nil]; exact ⟨by omega, by omega, trivial⟩)
theorem bdT_zJ : buildA Tryd.prog 29 [] = some (.agg (cellsT (.mk 0 false .n [] [] 0 .n []))) := bdT_
theorem nodK_rev : ∀ ks : List T, nodK ks.reverse = nodK ks
  | [] => rfl
  | k :: ks => by rw [List.reverse_cons, nodK_app, nodK_rev ks]; simp only [nodK]; omega
theorem nodK_all (m : Nat) : ∀ ks : List T, (∀ t ∈ ks, nodT t ≤ m) → nodK ks ≤ ks.length * m
  | [], _ => by simp [nodK]
  | k :: ks, h => by
    have h1 := h k (by simp)
    have h2 := nodK_all m ks fun t ht => h t (by simp [ht])
    simp only [nodK, List.length_cons]
    have : (ks.length + 1) * m = ks.length * m + m := Nat.succ_mul _ _
    omega
theorem ldT_4J (t k : Nat) (us : List T) : ldE Tryd.prog 22 ⟨t, .buf (cellsT (tupJ us))⟩ k 5 = if t = k then some (.sl (cellsK us) us.length (gr (kgOf us))) else none := ldT_4 _ _ _ _ _ _ _ _
theorem fewK_all (m : Nat) : ∀ ks : List T, (∀ t ∈ ks, fewT m t) → fewK m ks
  | [], _ => by simp only [fewK]
  | k :: ks, h => by simp only [fewK]; exact ⟨h k (by simp), fewK_all m ks fun t ht => h t (by simp [ht])⟩
noncomputable def codeBL : Code := (Tryd.f3.body).getD .skip
noncomputable def bl1 : Code := seqR codeBL
noncomputable def bl2 : Code := seqR bl1
noncomputable def bl3 : Code := seqR bl2
noncomputable def bl4 : Code := seqR bl3
noncomputable def bl5 : Code := seqR bl4
noncomputable def bl6 : Code := seqR bl5
noncomputable def bl7 : Code := seqR bl6
noncomputable def bl8 : Code := seqR bl7
noncomputable def bl9 : Code := seqR bl8
noncomputable def bl10 : Code := seqR bl9
noncomputable def bl11 : Code := seqR bl10
section
variable (R : Nat) (hR : 1000000 ≤ R) (ks ls : List T) (hk : ks.length ≤ 12) (hl : ls.length ≤ 12) (fk : ∀ t ∈ ks ++ ls, fewT 100000 t ∧ nodT t ≤ 200)
include hR hk hl fk
set_option maxHeartbeats 16000000 in
theorem bl11_eq (env : Env) (st : St) (e0 : env 0 = .sl (cellsK ks) ks.length .loose) (e1 : env 1 = .sl (cellsK ls) ls.length .loose) (e16 : env 16 = .sl (cellsK (ks ++ ls)) (ks ++ ls).length (gr (kgOf (ks ++ ls)))) :
    den Tryd.prog cfg0 (evalFn Tryd.prog cfg0 R 6199) R bl11 (finK Tryd.prog (cfg0.keep 3) [.tree (.sl (cellsK ks) ks.length .loose), .tree (.sl (cellsK ls) ls.length .loose)] Tryd.f3.results) env st = some (.tree (.bool true), [[], []]) := by
  have wa := fun D st => callA_trees (cfg := cfg0) (d := D) (s := st) (f := 7) (vs := []) rfl (evalFn_mono (show 100000 ≤ R by omega) 60 6199 (by decide) _ _ _ awakeB_eq)
  have sm (p : T) (gp : fewT 100000 p) (hp : nodT p ≤ 200) := callQ_trees (f := 12) (vs := [encT p, encT p]) rfl (evalFn_mono (show 100000 ≤ R by omega) 6199 6199 (Nat.le_refl _) _ _ _ (rsame_eq 100000 (by decide) 6198 6199 p p (by have := ht_nod p; omega) (by decide) gp))
  have hmlen : (ks ++ ls).length = ks.length + ls.length := List.length_append
  simp only [bl11, bl10, bl9, bl8, bl7, bl6, bl5, bl4, bl3, bl2, bl1, codeBL, seqR, Tryd.f3, Option.getD_some, zaa, zab, zac, zad, zae, zaf, zag, zah, zai, zaj, zak, zal, zam, zan, zao, zap, zaq, zar, zas, zat, zau, zav, zaw, zax, zay, zaz, zba, zbb, zbc, zbd, zbe, zbf, zbg, zbh, zbi, zbj, zbk, zbl, zbm, zbn, zbo, zbp, zbq, Nat.reduceBEq, Bool.or_self, Bool.or_false, Bool.or_true, Bool.and_true, Bool.and_false, Bool.true_and, Bool.false_and, Option.isNone_none, Option.isNone_some, Option.isSome_some, Option.isSome_none, zbr, zbs, zbt, zbu, zbv, zbw, zbx, zby, zbz, zca, zcb, zcc, zcd, zce, zcf, zcg, zch, zci, zcj, zck, zcl, zcm, zcn, zco, zcp, zcq, zcr, own0, zcs, zct, zcu, zcv, zcw, zcx, zcy, zcz, zda, zdb, zdc, zdd, zde, zdf, zdg, zdh, zdi, zdj, zdk, zdl, zdm, zdn, zdo, zdp, zdq, zdr, zds, zdt, zdu, Option.getD_some, Option.getD_none, zfb, zfc, zfd, zfe, zff, zfg, zfh, zfi, Option.map_some, Option.map_none, Option.bind_some, List.map_cons, List.map_nil, List.cons_append, List.nil_append, ↓reduceIte, Nat.reduceEqDiff, Nat.reduceAdd, decide_true, decide_false, Bool.true_eq_false, Bool.false_eq_true, env0, List.getElem?_cons_zero, List.getElem?_cons_succ, zdv, zdw, zdx, zdy, zdz, zea, zeb, zec, ia22, ld31, zed, zee, zef, zeg, zeh, zei, zej, zek, zel, zem, zen, zeo, zep, zeq, zer, fa_0, fa_1, zes, bd_0, bd_2, zet, fd_1, zeu, Nat.zero_add, den_loop]
  refine loop_ends (X := Nat) (fun i env s => env 0 = .sl (cellsK ks) ks.length .loose ∧ env 1 = .sl (cellsK ls) ls.length .loose ∧ env 16 = .sl (cellsK (ks ++ ls)) (ks ++ ls).length (gr (kgOf (ks ++ ls))) ∧ env 24 = .int .i64 (i : Int) ∧ i ≤ (ks ++ ls).length) (fun i => (ks ++ ls).length - i) (fun _ => (.tree (.bool true), [[], []])) ?_ R 0 _ _ (by omega) ⟨(by first | (simp only [zfi, ↓reduceIte, Nat.reduceEqDiff, e0]; done) | (simp only [zfi, ↓reduceIte, Nat.reduceEqDiff, e0]; rfl)), (by first | (simp only [zfi, ↓reduceIte, Nat.reduceEqDiff, e1]; done) | (simp only [zfi, ↓reduceIte, Nat.reduceEqDiff, e1]; rfl)), (by first | (simp only [zfi, ↓reduceIte, Nat.reduceEqDiff, e16]; done) | (simp only [zfi, ↓reduceIte, Nat.reduceEqDiff, e16]; rfl)), (by first | (simp only [zfi, ↓reduceIte, Nat.reduceEqDiff]; done) | (simp only [zfi, ↓reduceIte, Nat.reduceEqDiff]; rfl)), Nat.zero_le _⟩
  clear e0 e1 e16
  rintro rd i hrd ih env st ⟨e0, e1, e16, e24, hi⟩
  cases hdr : (ks ++ ls).drop i with
  | nil =>
    have hil : i = (ks ++ ls).length := by have := congrArg List.length hdr; simp only [List.length_drop, List.length_nil] at this; omega
    have q1 : ¬ ((i : Int) < ((ks ++ ls).length : Int)) := by omega
    simp only [zaa, zab, zac, zad, zae, zaf, zag, zah, zai, zaj, zak, zal, zam, zan, zao, zap, zaq, zar, zas, zat, zau, zav, zaw, zax, zay, zaz, zba, zbb, zbc, zbd, zbe, zbf, zbg, zbh, zbi, zbj, zbk, zbl, zbm, zbn, zbo, zbp, zbq, Nat.reduceBEq, Bool.or_self, Bool.or_false, Bool.or_true, Bool.and_true, Bool.and_false, Bool.true_and, Bool.false_and, Option.isNone_none, Option.isNone_some, Option.isSome_some, Option.isSome_none, zbr, zbs, zbt, zbu, zbv, zbw, zbx, zby, zbz, zca, zcb, zcc, zcd, zce, zcf, zcg, zch, zci, zcj, zck, zcl, zcm, zcn, zco, zcp, zcq, zcr, own0, zcs, zct, zcu, zcv, zcw, zcx, zcy, zcz, zda, zdb, zdc, zdd, zde, zdf, zdg, zdh, zdi, zdj, zdk, zdl, zdm, zdn, zdo, zdp, zdq, zdr, zds, zdt, zdu, Option.getD_some, Option.getD_none, zfb, zfc, zfd, zfe, zff, zfg, zfh, zfi, Option.map_some, Option.map_none, Option.bind_some, List.map_cons, List.map_nil, List.cons_append, List.nil_append, ↓reduceIte, Nat.reduceEqDiff, Nat.reduceAdd, decide_true, decide_false, Bool.true_eq_false, Bool.false_eq_true, zdv, zdw, zdx, zdy, zdz, zea, zeb, zec, ia22, ld31, zed, zee, zef, zeg, zeh, zei, zej, zek, zel, zem, zen, zeo, zep, zeq, zer, fa_0, fa_1, zes, bd_0, bd_2, zet, fd_1, zeu, Nat.zero_add, e0, e1, e16, e24, lenTk, q1, wa]
    exact finish_b _ _ _ _ _ _ _ (by first | (simp only [zfi, ↓reduceIte, Nat.reduceEqDiff]; done) | (simp only [zfi, ↓reduceIte, Nat.reduceEqDiff]; rfl)) rfl
  | cons x r =>
    have hil : i < (ks ++ ls).length := by have := congrArg List.length hdr; simp only [List.length_drop, List.length_cons] at this; omega
    have q1 : (i : Int) < ((ks ++ ls).length : Int) := by omega
    have hx : (ks ++ ls)[i]? = some x := by rw [← Nat.add_zero i, ← List.getElem?_drop, hdr]; rfl
    have hxm : x ∈ ks ++ ls := List.mem_of_getElem? hx
    have sx := sm x (fk x hxm).1 (fk x hxm).2
    rw [same_refl] at sx
    have im := fun st => ia_K st (ks ++ ls) (gr (kgOf (ks ++ ls))) i hil
    rw [hdr] at im
    have lx := fun st r => ld_K st x r
    have f5 := i_add Tryd.prog 3 (i : Int) 1 (by omega) (by omega)
    simp only [encT] at sx lx
    by_cases q2 : i < ks.length
    · have q3 : (i : Int) < (ks.length : Int) := by omega
      have ik := fun st => ia_K st ks .loose i q2
      obtain ⟨r', hr'⟩ : ∃ r', ks.drop i = x :: r' := by
        rw [List.drop_append_of_le_length (by omega)] at hdr
        cases h : ks.drop i with
        | nil => have := congrArg List.length h; simp only [List.length_drop, List.length_nil] at this; omega
        | cons y r' => rw [h] at hdr; cases hdr; exact ⟨r', rfl⟩
      rw [hr'] at ik
      simp only [zaa, zab, zac, zad, zae, zaf, zag, zah, zai, zaj, zak, zal, zam, zan, zao, zap, zaq, zar, zas, zat, zau, zav, zaw, zax, zay, zaz, zba, zbb, zbc, zbd, zbe, zbf, zbg, zbh, zbi, zbj, zbk, zbl, zbm, zbn, zbo, zbp, zbq, Nat.reduceBEq, Bool.or_self, Bool.or_false, Bool.or_true, Bool.and_true, Bool.and_false, Bool.true_and, Bool.false_and, Option.isNone_none, Option.isNone_some, Option.isSome_some, Option.isSome_none, zbr, zbs, zbt, zbu, zbv, zbw, zbx, zby, zbz, zca, zcb, zcc, zcd, zce, zcf, zcg, zch, zci, zcj, zck, zcl, zcm, zcn, zco, zcp, zcq, zcr, own0, zcs, zct, zcu, zcv, zcw, zcx, zcy, zcz, zda, zdb, zdc, zdd, zde, zdf, zdg, zdh, zdi, zdj, zdk, zdl, zdm, zdn, zdo, zdp, zdq, zdr, zds, zdt, zdu, Option.getD_some, Option.getD_none, zfb, zfc, zfd, zfe, zff, zfg, zfh, zfi, Option.map_some, Option.map_none, Option.bind_some, List.map_cons, List.map_nil, List.cons_append, List.nil_append, ↓reduceIte, Nat.reduceEqDiff, Nat.reduceAdd, decide_true, decide_false, Bool.true_eq_false, Bool.false_eq_true, zdv, zdw, zdx, zdy, zdz, zea, zeb, zec, ia22, ld31, zed, zee, zef, zeg, zeh, zei, zej, zek, zel, zem, zen, zeo, zep, zeq, zer, fa_0, fa_1, zes, bd_0, bd_2, zet, fd_1, zeu, Nat.zero_add, e0, e1, e16, e24, lenTk, zeroT, bdT_zJ, q1, q3, ik, im, lx, sx, unA_not', Bool.not_true, ldT_u, st_Tt, stT_6, stT_u, f5]

      exact ih (i + 1) _ _ (by omega) rfl ⟨(by first | (simp only [zfi, ↓reduceIte, Nat.reduceEqDiff, e0]; done) | (simp only [zfi, ↓reduceIte, Nat.reduceEqDiff, e0]; rfl)), (by first | (simp only [zfi, ↓reduceIte, Nat.reduceEqDiff, e1]; done) | (simp only [zfi, ↓reduceIte, Nat.reduceEqDiff, e1]; rfl)), (by first | (simp only [zfi, ↓reduceIte, Nat.reduceEqDiff, e16]; done) | (simp only [zfi, ↓reduceIte, Nat.reduceEqDiff, e16]; rfl)), (by first | (simp only [zfi, ↓reduceIte, Nat.reduceEqDiff]; done) | (simp only [zfi, ↓reduceIte, Nat.reduceEqDiff]; rfl)), by omega⟩
    · have q3 : ¬ (i : Int) < (ks.length : Int) := by omega
      have f6 := i_sub Tryd.prog 3 (i : Int) (ks.length : Int) (by omega) (by omega)
      have e6 : (i : Int) - (ks.length : Int) = ((i - ks.length : Nat) : Int) := by omega
      rw [e6] at f6
      have il := fun st => ia_K st ls .loose (i - ks.length) (by omega)
      have hr' : ls.drop (i - ks.length) = x :: r := by
        rw [List.drop_append, List.drop_eq_nil_of_le (by omega), List.nil_append] at hdr
        exact hdr
      rw [hr'] at il
      simp only [zaa, zab, zac, zad, zae, zaf, zag, zah, zai, zaj, zak, zal, zam, zan, zao, zap, zaq, zar, zas, zat, zau, zav, zaw, zax, zay, zaz, zba, zbb, zbc, zbd, zbe, zbf, zbg, zbh, zbi, zbj, zbk, zbl, zbm, zbn, zbo, zbp, zbq, Nat.reduceBEq, Bool.or_self, Bool.or_false, Bool.or_true, Bool.and_true, Bool.and_false, Bool.true_and, Bool.false_and, Option.isNone_none, Option.isNone_some, Option.isSome_some, Option.isSome_none, zbr, zbs, zbt, zbu, zbv, zbw, zbx, zby, zbz, zca, zcb, zcc, zcd, zce, zcf, zcg, zch, zci, zcj, zck, zcl, zcm, zcn, zco, zcp, zcq, zcr, own0, zcs, zct, zcu, zcv, zcw, zcx, zcy, zcz, zda, zdb, zdc, zdd, zde, zdf, zdg, zdh, zdi, zdj, zdk, zdl, zdm, zdn, zdo, zdp, zdq, zdr, zds, zdt, zdu, Option.getD_some, Option.getD_none, zfb, zfc, zfd, zfe, zff, zfg, zfh, zfi, Option.map_some, Option.map_none, Option.bind_some, List.map_cons, List.map_nil, List.cons_append, List.nil_append, ↓reduceIte, Nat.reduceEqDiff, Nat.reduceAdd, decide_true, decide_false, Bool.true_eq_false, Bool.false_eq_true, zdv, zdw, zdx, zdy, zdz, zea, zeb, zec, ia22, ld31, zed, zee, zef, zeg, zeh, zei, zej, zek, zel, zem, zen, zeo, zep, zeq, zer, fa_0, fa_1, zes, bd_0, bd_2, zet, fd_1, zeu, Nat.zero_add, e0, e1, e16, e24, lenTk, zeroT, bdT_zJ, q1, q3, f6, il, im, lx, sx, unA_not', Bool.not_true, ldT_u, st_Tt, stT_6, stT_u, f5]
      exact ih (i + 1) _ _ (by omega) rfl ⟨(by first | (simp only [zfi, ↓reduceIte, Nat.reduceEqDiff, e0]; done) | (simp only [zfi, ↓reduceIte, Nat.reduceEqDiff, e0]; rfl)), (by first | (simp only [zfi, ↓reduceIte, Nat.reduceEqDiff, e1]; done) | (simp only [zfi, ↓reduceIte, Nat.reduceEqDiff, e1]; rfl)), (by first | (simp only [zfi, ↓reduceIte, Nat.reduceEqDiff, e16]; done) | (simp only [zfi, ↓reduceIte, Nat.reduceEqDiff, e16]; rfl)), (by first | (simp only [zfi, ↓reduceIte, Nat.reduceEqDiff]; done) | (simp only [zfi, ↓reduceIte, Nat.reduceEqDiff]; rfl)), by omega⟩
set_option maxHeartbeats 16000000 in
theorem bl4_eq (na : nodT (listT ks nilT') ≤ 700) (nb : nodT (listT ls nilT') ≤ 700) (env : Env) (st : St) (e0 : env 0 = .sl (cellsK ks) ks.length .loose) (e1 : env 1 = .sl (cellsK ls) ls.length .loose) (e5 : env 5 = .ptr 5 1 0) (e6 : env 6 = .ptr 6 1 0)
    (j5 : st 5 = ⟨1, .buf (cellsT (listT ks nilT'))⟩) (j6 : st 6 = ⟨1, .buf (cellsT (listT ls nilT'))⟩) (k7 : (st 7).t = 0) (k8 : (st 8).t = 0) (k10 : (st 10).t = 0) (k11 : (st 11).t = 0) (k13 : (st 13).t = 0) (k14 : (st 14).t = 0) (k18 : (st 18).t = 0) (k19 : (st 19).t = 0) (k21 : (st 21).t = 0) (k22 : (st 22).t = 0) :
    den Tryd.prog cfg0 (evalFn Tryd.prog cfg0 R 6199) R bl4 (finK Tryd.prog (cfg0.keep 3) [.tree (.sl (cellsK ks) ks.length .loose), .tree (.sl (cellsK ls) ls.length .loose)] Tryd.f3.results) env st = some (.tree (.bool true), [[], []]) := by
  have nL : ∀ us : List T, nodT (listT us nilT') = us.length + nodK us + 1 := fun us => nod_list us nilT'
  have nA := nL ks
  have nB := nL ls
  have nR : nodT (listT ks.reverse nilT') ≤ 2000 := by rw [nL, nodK_rev, List.length_reverse]; omega
  have nT : nodT (listT (ks ++ ls) nilT') ≤ 2000 := by rw [nL, nodK_app, List.length_append]; omega
  have nU : nodT (tupJ ks) ≤ 2000 := by
    show nodK ks + 1 ≤ 2000
    omega
  have nd (u : T) (hu : nodT u ≤ 2000) := evalFn_mono (show 1000000 ≤ R from hR) 6198 6198 (Nat.le_refl _) _ _ _ (tNodes_eq 1000000 (Nat.le_refl _) 6198 u (by have := ht_nod u; omega) (by omega))
  have iK : ∀ us : List T, us.length ≤ 12 → itemsT (listT us nilT') = some us := fun us h => by have := itT_list us 2001 [] (by omega); rw [List.nil_append] at this; exact this
  have m {n : Nat} {f : FuncId} {xs : List Arg} {o : Out} (h : evalFn Tryd.prog cfg0 100000 20 f xs = some o) : evalFn Tryd.prog cfg0 R 6198 f xs = some o := evalFn_mono (show 100000 ≤ R by omega) 20 6198 (by decide) _ _ _ h
  have n1 := callR_eq R 6198 sRev (listT ks nilT') (listT ks.reverse nilT') (m (n := 0) hasRev) (answer1_eq R 6197 sRev _ _ true (oneRev_eq R 6196 _ ks (iK ks hk) (by omega))) (nd _ nR) nR
  have n2 := callR_eq R 6198 sRev (listT ks.reverse nilT') (listT ks nilT') (m (n := 0) hasRev) (answer1_eq R 6197 sRev _ _ true (by
    have := oneRev_eq R 6196 (listT ks.reverse nilT') ks.reverse (iK _ (by rw [List.length_reverse]; exact hk)) (by rw [List.length_reverse]; omega)
    rwa [List.reverse_reverse] at this)) (nd _ (by omega)) (by omega)
  have n3 := call2_eq R 6198 sPP (listT ks nilT') (listT ls nilT') (listT (ks ++ ls) nilT') (m (n := 0) hasPP) (m (n := 0) contPP) (answer2_eq R 6197 sPP _ _ _ true (by
    have := twoPP_eq R 6194 (by omega) (listT ks nilT') (listT ls nilT') ks (iK ks hk) (by omega)
    rwa [listT_app] at this)) (nd _ nT) nT
  have n5 := call1_eq R 6198 sL2t (listT ks nilT') (tupJ ks) (m (n := 0) hasL2t) (m (n := 0) contL2t) (answer1_eq R 6197 sL2t _ _ true (oneL2t_eq R 6196 (by omega) (by decide) _ ks (iK ks hk) (by omega))) (nd _ nU) nU
  have n6 := call1_eq R 6198 sT2l (tupJ ks) (listT ks nilT') (m (n := 0) hasT2l) (m (n := 0) contT2l) (answer1_eq R 6197 sT2l _ _ true (oneT2l_eq R 6196 (by omega) (by decide) ks (by omega))) (nd _ (by omega)) (by omega)
  have c1 := fun D st => callA_trees (cfg := cfg0) (d := D) (s := st) (f := 10) (vs := [.str sListsB, .str sRev, .sl (cellsK [listT ks nilT']) 1 .tight]) rfl n1
  have c2 := fun D st => callA_trees (cfg := cfg0) (d := D) (s := st) (f := 10) (vs := [.str sListsB, .str sRev, .sl (cellsK [listT ks.reverse nilT']) 1 .tight]) rfl n2
  have c3 := fun D st => callA_trees (cfg := cfg0) (d := D) (s := st) (f := 10) (vs := [.str sErl, .str sPP, .sl (cellsK [listT ks nilT', listT ls nilT']) 2 .tight]) rfl n3
  have c4 := fun D st => callA_trees (cfg := cfg0) (d := D) (s := st) (f := 11) (vs := [encT (listT (ks ++ ls) nilT')]) rfl (rItems_eq R 6198 (ks ++ ls) (by rw [List.length_append]; omega) (by omega))
  have c5 := fun D st => callA_trees (cfg := cfg0) (d := D) (s := st) (f := 10) (vs := [.str sErl, .str sL2t, .sl (cellsK [listT ks nilT']) 1 .tight]) rfl n5
  have c6 := fun D st => callA_trees (cfg := cfg0) (d := D) (s := st) (f := 10) (vs := [.str sErl, .str sT2l, .sl (cellsK [tupJ ks]) 1 .tight]) rfl n6
  have fa : fewT 100000 (listT ks nilT') := few_lsJ 100000 (by decide) ks (fewK_all 100000 ks fun t ht => (fk t (List.mem_append_left _ ht)).1)
  have s1 := fun D st => callA_trees (cfg := cfg0) (d := D) (s := st) (f := 12) (vs := [encT (listT ks nilT'), encT (listT ks nilT')]) rfl (evalFn_mono (show 100000 ≤ R by omega) 6199 6199 (Nat.le_refl _) _ _ _ (rsame_eq 100000 (by decide) 6198 6199 _ _ (by have := ht_nod (listT ks nilT'); omega) (by decide) fa))
  rw [same_refl] at s1
  simp only [encT, sListsB, sRev] at c1 c2
  simp only [encT, sErl, sPP] at c3
  simp only [encT] at c4 s1
  simp only [encT, sErl, sL2t] at c5
  simp only [encT, sErl, sT2l] at c6
  have lt := fun t k => ldT_4J t k ks
  have f5 := i_add Tryd.prog 3 (ks.length : Int) (ls.length : Int) (by omega) (by omega)
  have e7 : ((ks ++ ls).length : Int) = (ks.length : Int) + (ls.length : Int) := by rw [List.length_append]; omega
  have b1 : ((ks.length : Int) + (ls.length : Int) != (ks.length : Int) + (ls.length : Int)) = false := by simp
  have b2 : ((ks.length : Int) != (ks.length : Int)) = false := by simp
  have hb : bl4 = .seq (seqL bl4) (.seq (seqL bl5) (.seq (seqL bl6) (.seq (seqL bl7) (.seq (seqL bl8) (.seq (seqL bl9) (.seq (seqL bl10) bl11)))))) := rfl
  rw [hb]
  simp only [seqL, bl10, bl9, bl8, bl7, bl6, bl5, bl4, bl3, bl2, bl1, codeBL, seqR, Tryd.f3, Option.getD_some, zaa, zab, zac, zad, zae, zaf, zag, zah, zai, zaj, zak, zal, zam, zan, zao, zap, zaq, zar, zas, zat, zau, zav, zaw, zax, zay, zaz, zba, zbb, zbc, zbd, zbe, zbf, zbg, zbh, zbi, zbj, zbk, zbl, zbm, zbn, zbo, zbp, zbq, Nat.reduceBEq, Bool.or_self, Bool.or_false, Bool.or_true, Bool.and_true, Bool.and_false, Bool.true_and, Bool.false_and, Option.isNone_none, Option.isNone_some, Option.isSome_some, Option.isSome_none, zbr, zbs, zbt, zbu, zbv, zbw, zbx, zby, zbz, zca, zcb, zcc, zcd, zce, zcf, zcg, zch, zci, zcj, zck, zcl, zcm, zcn, zco, zcp, zcq, zcr, own0, zcs, zct, zcu, zcv, zcw, zcx, zcy, zcz, zda, zdb, zdc, zdd, zde, zdf, zdg, zdh, zdi, zdj, zdk, zdl, zdm, zdn, zdo, zdp, zdq, zdr, zds, zdt, zdu, Option.getD_some, Option.getD_none, zfb, zfc, zfd, zfe, zff, zfg, zfh, zfi, Option.map_some, Option.map_none, Option.bind_some, List.map_cons, List.map_nil, List.cons_append, List.nil_append, ↓reduceIte, Nat.reduceEqDiff, Nat.reduceAdd, decide_true, decide_false, Bool.true_eq_false, Bool.false_eq_true, env0, List.getElem?_cons_zero, List.getElem?_cons_succ, zdv, zdw, zdx, zdy, zdz, zea, zeb, zec, ia22, ld31, zed, zee, zef, zeg, zeh, zei, zej, zek, zel, zem, zen, zeo, zep, zeq, zer, fa_0, fa_1, zes, bd_0, bd_2, zet, fd_1, zeu, Nat.zero_add, zev, List.toList_toArray, len9, ix9, zew, zex, zey, zez, zfa, zeroT, zeroE, e0, e1, e5, e6, j5, j6, k7, k8, k10, k11, k13, k14, k18, k19, k21, k22, ldT_u, opA_one26, one26_K1, opA_duo26, duo26_T, c1, c2, c3, c4, c5, c6, zds, st_Tt, stT_6, stT_u, st_E, stE_z, unA_not', Bool.not_true, s1, lenTk, e7, f5, i_neqV, b1, b2, faT_4, Nat.reduceAdd, lt]
  exact bl11_eq R hR ks ls hk hl fk _ _ (by first | (simp only [zfi, ↓reduceIte, Nat.reduceEqDiff, e0]; done) | (simp only [zfi, ↓reduceIte, Nat.reduceEqDiff, e0]; rfl)) (by first | (simp only [zfi, ↓reduceIte, Nat.reduceEqDiff, e1]; done) | (simp only [zfi, ↓reduceIte, Nat.reduceEqDiff, e1]; rfl)) (by first | (simp only [zfi, ↓reduceIte, Nat.reduceEqDiff]; done) | (simp only [zfi, ↓reduceIte, Nat.reduceEqDiff]; rfl))
end
set_option maxHeartbeats 16000000 in
theorem lists_B (R : Nat) (hR : 1000000 ≤ R) (hR2 : R ≤ 9223372036854775808) (ks ls : List T) (hb : bigK R ks) (hb2 : bigK R ls) (fk : fewK R ks) (fl : fewK R ls) :
    evalFn Tryd.prog cfg0 R 6200 3 [.tree (.sl (cellsK ks) ks.length .loose), .tree (.sl (cellsK ls) ls.length .loose)] = some (.tree (.bool true), [[], []]) := by
  rw [evalFn_go _ Tryd.func3 (by unfold Tryd.f3; rfl) (by unfold Tryd.f3; decide) (Nat.le_of_ble_eq_true (by unfold Tryd.f3; rfl)) (by kernel_rfl)]
  have wa := fun D st => callA_trees (cfg := cfg0) (d := D) (s := st) (f := 7) (vs := []) rfl (evalFn_mono (show 100000 ≤ R by omega) 60 6199 (by decide) _ _ _ awakeB_eq)
  have k3 := fun D st => callA_trees (cfg := cfg0) (d := D) (s := st) (f := 6) (vs := [.sl (cellsK ks) ks.length .loose]) rfl (fewB_eq R 6198 (by omega) hR2 (by decide) ks .loose hb fk)
  have k4 := fun D st => callA_trees (cfg := cfg0) (d := D) (s := st) (f := 6) (vs := [.sl (cellsK ls) ls.length .loose]) rfl (fewB_eq R 6198 (by omega) hR2 (by decide) ls .loose hb2 fl)
  cases g3 : (fewR 12 ks && decide (ks.length ≤ 12)) with
  | false =>
    rw [g3] at k3
    simp only [zaa, zab, zac, zad, zae, zaf, zag, zah, zai, zaj, zak, zal, zam, zan, zao, zap, zaq, zar, zas, zat, zau, zav, zaw, zax, zay, zaz, zba, zbb, zbc, zbd, zbe, zbf, zbg, zbh, zbi, zbj, zbk, zbl, zbm, zbn, zbo, zbp, zbq, Nat.reduceBEq, Bool.or_self, Bool.or_false, Bool.or_true, Bool.and_true, Bool.and_false, Bool.true_and, Bool.false_and, Option.isNone_none, Option.isNone_some, Option.isSome_some, Option.isSome_none, zbr, zbs, zbt, zbu, zbv, zbw, zbx, zby, zbz, zca, zcb, zcc, zcd, zce, zcf, zcg, zch, zci, zcj, zck, zcl, zcm, zcn, zco, zcp, zcq, zcr, own0, zcs, zct, zcu, zcv, zcw, zcx, zcy, zcz, zda, zdb, zdc, zdd, zde, zdf, zdg, zdh, zdi, zdj, zdk, zdl, zdm, zdn, zdo, zdp, zdq, zdr, zds, zdt, zdu, Option.getD_some, Option.getD_none, zfb, zfc, zfd, zfe, zff, zfg, zfh, zfi, Option.map_some, Option.map_none, Option.bind_some, List.map_cons, List.map_nil, List.cons_append, List.nil_append, ↓reduceIte, Nat.reduceEqDiff, Nat.reduceAdd, decide_true, decide_false, Bool.true_eq_false, Bool.false_eq_true, env0, List.getElem?_cons_zero, List.getElem?_cons_succ, zdv, zdw, zdx, zdy, zdz, zea, zeb, zec, ia22, ld31, zed, zee, zef, zeg, zeh, zei, zej, zek, zel, zem, zen, zeo, zep, zeq, zer, fa_0, fa_1, zes, bd_0, bd_2, zet, fd_1, zeu, Nat.zero_add, k3, unA_not', Bool.not_true, Bool.not_false, wa]
    exact finish_b _ _ _ _ _ _ _ (by first | (simp only [zfi, ↓reduceIte, Nat.reduceEqDiff]; done) | (simp only [zfi, ↓reduceIte, Nat.reduceEqDiff]; rfl)) rfl
  | true =>
  rw [g3] at k3
  cases g4 : (fewR 12 ls && decide (ls.length ≤ 12)) with
  | false =>
    rw [g4] at k4
    simp only [zaa, zab, zac, zad, zae, zaf, zag, zah, zai, zaj, zak, zal, zam, zan, zao, zap, zaq, zar, zas, zat, zau, zav, zaw, zax, zay, zaz, zba, zbb, zbc, zbd, zbe, zbf, zbg, zbh, zbi, zbj, zbk, zbl, zbm, zbn, zbo, zbp, zbq, Nat.reduceBEq, Bool.or_self, Bool.or_false, Bool.or_true, Bool.and_true, Bool.and_false, Bool.true_and, Bool.false_and, Option.isNone_none, Option.isNone_some, Option.isSome_some, Option.isSome_none, zbr, zbs, zbt, zbu, zbv, zbw, zbx, zby, zbz, zca, zcb, zcc, zcd, zce, zcf, zcg, zch, zci, zcj, zck, zcl, zcm, zcn, zco, zcp, zcq, zcr, own0, zcs, zct, zcu, zcv, zcw, zcx, zcy, zcz, zda, zdb, zdc, zdd, zde, zdf, zdg, zdh, zdi, zdj, zdk, zdl, zdm, zdn, zdo, zdp, zdq, zdr, zds, zdt, zdu, Option.getD_some, Option.getD_none, zfb, zfc, zfd, zfe, zff, zfg, zfh, zfi, Option.map_some, Option.map_none, Option.bind_some, List.map_cons, List.map_nil, List.cons_append, List.nil_append, ↓reduceIte, Nat.reduceEqDiff, Nat.reduceAdd, decide_true, decide_false, Bool.true_eq_false, Bool.false_eq_true, env0, List.getElem?_cons_zero, List.getElem?_cons_succ, zdv, zdw, zdx, zdy, zdz, zea, zeb, zec, ia22, ld31, zed, zee, zef, zeg, zeh, zei, zej, zek, zel, zem, zen, zeo, zep, zeq, zer, fa_0, fa_1, zes, bd_0, bd_2, zet, fd_1, zeu, Nat.zero_add, k3, k4, unA_not', Bool.not_true, Bool.not_false, wa]
    exact finish_b _ _ _ _ _ _ _ (by first | (simp only [zfi, ↓reduceIte, Nat.reduceEqDiff]; done) | (simp only [zfi, ↓reduceIte, Nat.reduceEqDiff]; rfl)) rfl
  | true =>
  rw [g4] at k4
  rw [Bool.and_eq_true, decide_eq_true_eq] at g3 g4
  have la := fewR_all 12 ks g3.1 g3.2
  have lb := fewR_all 12 ls g4.1 g4.2
  have one : ∀ t : T, lgT t 100 ≥ 0 → fewT 100000 t ∧ nodT t ≤ 100 := fun t h1 => by
    have h2 := lgT_ok t 100 h1
    have h3 : nodT t ≤ 100 := by omega
    exact ⟨fewT_le (by decide) t (few_node 100 t h2.1 h3 (by decide)), h3⟩
  have nA : nodT (listT ks nilT') ≤ 1213 := by
    have e : nodT (listT ks nilT') = ks.length + nodK ks + 1 := nod_list ks nilT'
    have := nodK_all 100 ks fun t ht => (one t (la t ht)).2
    have := g3.2
    omega
  have nB : nodT (listT ls nilT') ≤ 1213 := by
    have e : nodT (listT ls nilT') = ls.length + nodK ls + 1 := nod_list ls nilT'
    have := nodK_all 100 ls fun t ht => (one t (lb t ht)).2
    have := g4.2
    omega
  have fall : ∀ t ∈ ks ++ ls, fewT 100000 t ∧ nodT t ≤ 200 := fun t ht => by
    rcases List.mem_append.1 ht with ht | ht
    · have := one t (la t ht); exact ⟨this.1, by omega⟩
    · have := one t (lb t ht); exact ⟨this.1, by omega⟩
  have r1 := fun D st => callA_trees (cfg := cfg0) (d := D) (s := st) (f := 8) (vs := [.sl (cellsK ks) ks.length .loose, encT nilT']) rfl (rList_eq R 6198 ks .loose nilT' (by omega) (by omega))
  have r2 := fun D st => callA_trees (cfg := cfg0) (d := D) (s := st) (f := 8) (vs := [.sl (cellsK ls) ls.length .loose, encT nilT']) rfl (rList_eq R 6198 ls .loose nilT' (by omega) (by omega))
  have my (t : T) (ht : nodT t ≤ 1213) : ∀ D st, callA cfg0 (evalFn Tryd.prog cfg0 R 6199) D st 9 [encT t, .int .i64 0] = some (.int .i64 (nodT t : Int), st) := fun D st => by
    have := callA_trees (cfg := cfg0) (d := D) (s := st) (f := 9) (vs := [encT t, .int .i64 ((0 : Nat) : Int)]) rfl (evalFn_mono (show 1000000 ≤ R from hR) 6199 6199 (Nat.le_refl _) _ _ _ (rMany_eq 1000000 (Nat.le_refl _) 6199 t 0 (by have := ht_nod t; omega) (by omega) (by omega)))
    rw [Nat.zero_add] at this
    exact this
  have m1 := my _ nA
  have m2 := my _ nB
  simp only [encT] at r1 r2 m1 m2
  by_cases h7 : (nodT (listT ks nilT') : Int) > 700
  · simp only [zaa, zab, zac, zad, zae, zaf, zag, zah, zai, zaj, zak, zal, zam, zan, zao, zap, zaq, zar, zas, zat, zau, zav, zaw, zax, zay, zaz, zba, zbb, zbc, zbd, zbe, zbf, zbg, zbh, zbi, zbj, zbk, zbl, zbm, zbn, zbo, zbp, zbq, Nat.reduceBEq, Bool.or_self, Bool.or_false, Bool.or_true, Bool.and_true, Bool.and_false, Bool.true_and, Bool.false_and, Option.isNone_none, Option.isNone_some, Option.isSome_some, Option.isSome_none, zbr, zbs, zbt, zbu, zbv, zbw, zbx, zby, zbz, zca, zcb, zcc, zcd, zce, zcf, zcg, zch, zci, zcj, zck, zcl, zcm, zcn, zco, zcp, zcq, zcr, own0, zcs, zct, zcu, zcv, zcw, zcx, zcy, zcz, zda, zdb, zdc, zdd, zde, zdf, zdg, zdh, zdi, zdj, zdk, zdl, zdm, zdn, zdo, zdp, zdq, zdr, zds, zdt, zdu, Option.getD_some, Option.getD_none, zfb, zfc, zfd, zfe, zff, zfg, zfh, zfi, Option.map_some, Option.map_none, Option.bind_some, List.map_cons, List.map_nil, List.cons_append, List.nil_append, ↓reduceIte, Nat.reduceEqDiff, Nat.reduceAdd, decide_true, decide_false, Bool.true_eq_false, Bool.false_eq_true, env0, List.getElem?_cons_zero, List.getElem?_cons_succ, zdv, zdw, zdx, zdy, zdz, zea, zeb, zec, ia22, ld31, zed, zee, zef, zeg, zeh, zei, zej, zek, zel, zem, zen, zeo, zep, zeq, zer, fa_0, fa_1, zes, bd_0, bd_2, zet, fd_1, zeu, Nat.zero_add, k3, k4, unA_not', Bool.not_true, zeroT, bdN3, r1, r2, ldT_u, st_Tt, stT_6, m1, h7, wa]
    exact finish_b _ _ _ _ _ _ _ (by first | (simp only [zfi, ↓reduceIte, Nat.reduceEqDiff]; done) | (simp only [zfi, ↓reduceIte, Nat.reduceEqDiff]; rfl)) rfl
  by_cases h8 : (nodT (listT ls nilT') : Int) > 700
  · simp only [zaa, zab, zac, zad, zae, zaf, zag, zah, zai, zaj, zak, zal, zam, zan, zao, zap, zaq, zar, zas, zat, zau, zav, zaw, zax, zay, zaz, zba, zbb, zbc, zbd, zbe, zbf, zbg, zbh, zbi, zbj, zbk, zbl, zbm, zbn, zbo, zbp, zbq, Nat.reduceBEq, Bool.or_self, Bool.or_false, Bool.or_true, Bool.and_true, Bool.and_false, Bool.true_and, Bool.false_and, Option.isNone_none, Option.isNone_some, Option.isSome_some, Option.isSome_none, zbr, zbs, zbt, zbu, zbv, zbw, zbx, zby, zbz, zca, zcb, zcc, zcd, zce, zcf, zcg, zch, zci, zcj, zck, zcl, zcm, zcn, zco, zcp, zcq, zcr, own0, zcs, zct, zcu, zcv, zcw, zcx, zcy, zcz, zda, zdb, zdc, zdd, zde, zdf, zdg, zdh, zdi, zdj, zdk, zdl, zdm, zdn, zdo, zdp, zdq, zdr, zds, zdt, zdu, Option.getD_some, Option.getD_none, zfb, zfc, zfd, zfe, zff, zfg, zfh, zfi, Option.map_some, Option.map_none, Option.bind_some, List.map_cons, List.map_nil, List.cons_append, List.nil_append, ↓reduceIte, Nat.reduceEqDiff, Nat.reduceAdd, decide_true, decide_false, Bool.true_eq_false, Bool.false_eq_true, env0, List.getElem?_cons_zero, List.getElem?_cons_succ, zdv, zdw, zdx, zdy, zdz, zea, zeb, zec, ia22, ld31, zed, zee, zef, zeg, zeh, zei, zej, zek, zel, zem, zen, zeo, zep, zeq, zer, fa_0, fa_1, zes, bd_0, bd_2, zet, fd_1, zeu, Nat.zero_add, k3, k4, unA_not', Bool.not_true, zeroT, bdN3, r1, r2, ldT_u, st_Tt, stT_6, m1, m2, h7, h8, wa]
    exact finish_b _ _ _ _ _ _ _ (by first | (simp only [zfi, ↓reduceIte, Nat.reduceEqDiff]; done) | (simp only [zfi, ↓reduceIte, Nat.reduceEqDiff]; rfl)) rfl
  have hc : codeBL = .seq (seqL codeBL) (.seq (seqL bl1) (.seq (seqL bl2) (.seq (seqL bl3) bl4))) := rfl
  show den _ _ _ _ codeBL _ _ _ = _
  rw [hc]
  simp only [seqL, bl3, bl2, bl1, codeBL, seqR, Tryd.f3, Option.getD_some, zaa, zab, zac, zad, zae, zaf, zag, zah, zai, zaj, zak, zal, zam, zan, zao, zap, zaq, zar, zas, zat, zau, zav, zaw, zax, zay, zaz, zba, zbb, zbc, zbd, zbe, zbf, zbg, zbh, zbi, zbj, zbk, zbl, zbm, zbn, zbo, zbp, zbq, Nat.reduceBEq, Bool.or_self, Bool.or_false, Bool.or_true, Bool.and_true, Bool.and_false, Bool.true_and, Bool.false_and, Option.isNone_none, Option.isNone_some, Option.isSome_some, Option.isSome_none, zbr, zbs, zbt, zbu, zbv, zbw, zbx, zby, zbz, zca, zcb, zcc, zcd, zce, zcf, zcg, zch, zci, zcj, zck, zcl, zcm, zcn, zco, zcp, zcq, zcr, own0, zcs, zct, zcu, zcv, zcw, zcx, zcy, zcz, zda, zdb, zdc, zdd, zde, zdf, zdg, zdh, zdi, zdj, zdk, zdl, zdm, zdn, zdo, zdp, zdq, zdr, zds, zdt, zdu, Option.getD_some, Option.getD_none, zfb, zfc, zfd, zfe, zff, zfg, zfh, zfi, Option.map_some, Option.map_none, Option.bind_some, List.map_cons, List.map_nil, List.cons_append, List.nil_append, ↓reduceIte, Nat.reduceEqDiff, Nat.reduceAdd, decide_true, decide_false, Bool.true_eq_false, Bool.false_eq_true, env0, List.getElem?_cons_zero, List.getElem?_cons_succ, zdv, zdw, zdx, zdy, zdz, zea, zeb, zec, ia22, ld31, zed, zee, zef, zeg, zeh, zei, zej, zek, zel, zem, zen, zeo, zep, zeq, zer, fa_0, fa_1, zes, bd_0, bd_2, zet, fd_1, zeu, Nat.zero_add, k3, k4, unA_not', Bool.not_true, zeroT, bdN3, r1, r2, ldT_u, st_Tt, stT_6, m1, m2, h7, h8]
  exact bl4_eq R hR ks ls g3.2 g4.2 fall (by omega) (by omega) _ _ (by first | (simp only [zfi, ↓reduceIte, Nat.reduceEqDiff, env0, List.getElem?_cons_zero, List.getElem?_cons_succ]; done) | (simp only [zfi, ↓reduceIte, Nat.reduceEqDiff, env0, List.getElem?_cons_zero, List.getElem?_cons_succ]; rfl)) (by first | (simp only [zfi, ↓reduceIte, Nat.reduceEqDiff, env0, List.getElem?_cons_zero, List.getElem?_cons_succ]; done) | (simp only [zfi, ↓reduceIte, Nat.reduceEqDiff, env0, List.getElem?_cons_zero, List.getElem?_cons_succ]; rfl)) (by first | (simp only [zfi, ↓reduceIte, Nat.reduceEqDiff]; done) | (simp only [zfi, ↓reduceIte, Nat.reduceEqDiff]; rfl)) (by first | (simp only [zfi, ↓reduceIte, Nat.reduceEqDiff]; done) | (simp only [zfi, ↓reduceIte, Nat.reduceEqDiff]; rfl)) (by first | (simp only [zfi, ↓reduceIte, Nat.reduceEqDiff]; done) | (simp only [zfi, ↓reduceIte, Nat.reduceEqDiff]; rfl)) (by first | (simp only [zfi, ↓reduceIte, Nat.reduceEqDiff]; done) | (simp only [zfi, ↓reduceIte, Nat.reduceEqDiff]; rfl)) (by first | (simp only [zfi, ↓reduceIte, Nat.reduceEqDiff, zel]; done) | (simp only [zfi, ↓reduceIte, Nat.reduceEqDiff, zel]; rfl)) (by first | (simp only [zfi, ↓reduceIte, Nat.reduceEqDiff, zel]; done) | (simp only [zfi, ↓reduceIte, Nat.reduceEqDiff, zel]; rfl)) (by first | (simp only [zfi, ↓reduceIte, Nat.reduceEqDiff, zel]; done) | (simp only [zfi, ↓reduceIte, Nat.reduceEqDiff, zel]; rfl)) (by first | (simp only [zfi, ↓reduceIte, Nat.reduceEqDiff, zel]; done) | (simp only [zfi, ↓reduceIte, Nat.reduceEqDiff, zel]; rfl)) (by first | (simp only [zfi, ↓reduceIte, Nat.reduceEqDiff, zel]; done) | (simp only [zfi, ↓reduceIte, Nat.reduceEqDiff, zel]; rfl)) (by first | (simp only [zfi, ↓reduceIte, Nat.reduceEqDiff, zel]; done) | (simp only [zfi, ↓reduceIte, Nat.reduceEqDiff, zel]; rfl)) (by first | (simp only [zfi, ↓reduceIte, Nat.reduceEqDiff, zel]; done) | (simp only [zfi, ↓reduceIte, Nat.reduceEqDiff, zel]; rfl)) (by first | (simp only [zfi, ↓reduceIte, Nat.reduceEqDiff, zel]; done) | (simp only [zfi, ↓reduceIte, Nat.reduceEqDiff, zel]; rfl)) (by first | (simp only [zfi, ↓reduceIte, Nat.reduceEqDiff, zel]; done) | (simp only [zfi, ↓reduceIte, Nat.reduceEqDiff, zel]; rfl)) (by first | (simp only [zfi, ↓reduceIte, Nat.reduceEqDiff, zel]; done) | (simp only [zfi, ↓reduceIte, Nat.reduceEqDiff, zel]; rfl))
end Go.Ab

/- The walk of BifLists: it gives true, and leaves memory below as it was. No conditions. -/
namespace Go.Ab
open Go.Proofs Go.RowKit
theorem st0_2b (a b : AV) : st0 [.tree a, .tree b] = dead := by
  funext p
  match p with
  | 0 => rfl
  | 1 => rfl
  | p + 2 => rfl
theorem walkBLists (a0 : Option Addr) (len0 cap0 : Nat) (a1 : Option Addr) (len1 cap1 : Nat) (w : World) (h0 : IsTerms w a0 len0 cap0) (h1 : IsTerms w a1 len1 cap1) :
    Calls Tryd.prog 3 #[.slice a0 len0 cap0, .slice a1 len1 cap1] w fun e w' => e = .returned (.bool true) ∧ Below w.heap.size w w' := by
  obtain ⟨ks, rfl, hb, hf, hv⟩ := h0
  obtain ⟨ls, rfl, hb2, hf2, hv2⟩ := h1
  refine lawCalls mixed (vs := [.slice a0 ks.length cap0, .slice a1 ls.length cap1]) (lists_B R0 (by unfold R0; decide) (by unfold R0; decide) ks ls hb hb2 hf hf2) rfl (st0_2b _ _) (fun j v hj => ?_) true rfl
  match j, hj with
  | 0, hj => cases hj; exact ⟨hv, rfl⟩
  | 1, hj => cases hj; exact ⟨hv2, rfl⟩
end Go.Ab
