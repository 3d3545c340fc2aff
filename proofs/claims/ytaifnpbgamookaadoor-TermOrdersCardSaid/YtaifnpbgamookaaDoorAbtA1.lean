/- Numbers with a sign in memory cells; which may be. Conditions: limbs in range. -/
import Derived.Test.YtaifnpbgamookaaDoorAbtLL
import Derived.Test.YtaifnpbgamookaaDoorAbtMM
namespace Go.Ab
open Go.Proofs
set_option maxRecDepth 100000
set_option linter.unusedSimpArgs false

abbrev encA (neg : Bool) (g : Gk) (l : List Nat) : AV := .agg [.bool neg, encL g l]
def encZ (z : Int) : AV := .agg [.bool (decide (z < 0)), encR z.natAbs]
theorem encZ_0 : encZ 0 = encA false .n [] := by
  simp only [encZ, encA, encR, Int.natAbs_zero, digs_0, if_true]; rfl

theorem tk24 : tkOf Tryd.prog 25 = .st := by kernel_rfl
theorem zef : zeroOf Tryd.prog 25 = some [.bool false, .sl [] 0 .nil] := by kernel_rfl
theorem sh24 : shOf Tryd.prog 25 = some (true, 2) := by kernel_rfl
theorem sh22 : shOf Tryd.prog 23 = some (false, 1) := by kernel_rfl
theorem sh4 : shOf Tryd.prog 4 = some (false, 1) := by kernel_rfl
theorem esz24 : esz Tryd.prog 25 = some 2 := by kernel_rfl
theorem esz22 : esz Tryd.prog 23 = some 1 := by kernel_rfl
theorem esz4 : esz Tryd.prog 4 = some 1 := by kernel_rfl
theorem pl24 : placesA Tryd.prog 25 = some [(0, 1), (1, 1)] := by kernel_rfl
theorem fd24_0 : fieldOf Tryd.prog 25 0 = some (4, 0) := by kernel_rfl
theorem fd24_1 : fieldOf Tryd.prog 25 1 = some (23, 1) := by kernel_rfl

section
variable {P : Program} {cfg : Cfg} {call : FuncId → List Arg → Option Out} {d : Option Tmp} {ty : TypeId} {pos : String} {af : Array Edge} {g : Option (Nat × Bool)} {t : Nat} {q : Bool} {env : Env} {s : St}
/-- A new block of what is settled. -/
def boxA (d : Nat) (s : St) (v : AV) : Option (AV × St) := (settle s v).bind fun x => (cellsOf x.1).map fun xs => (.ptr d ((x.2 d).t + 1) 0, upd x.2 d ⟨(x.2 d).t + 1, .buf xs⟩)
theorem zdq (u : TypeId) (x : Operand) : opA P cfg call q ⟨d, .box u x, ty, pos, af, g⟩ t env s = boxA t s (ev env x) := rfl
theorem zdr (u : TypeId) : opA P cfg call q ⟨d, .alloc u, ty, pos, af, g⟩ t env s = (zeroOf P u).map fun z => (.ptr t ((s t).t + 1) 0, upd s t ⟨(s t).t + 1, .buf z⟩) := rfl
theorem zds (u : TypeId) (x : Operand) (i : Nat) : opA P cfg call q ⟨d, .fieldAddr u x i, ty, pos, af, g⟩ t env s = (fieldAddrA P u s (ev env x) i).map (·, s) := rfl
theorem zdt (u : TypeId) (x : Operand) (i : Nat) : opA P cfg call q ⟨d, .field u x i, ty, pos, af, g⟩ t env s = (fieldA P u (ev env x) i).map (·, s) := rfl
/-- A struct put together. -/
def buildA (P : Program) (u : TypeId) (parts : List (Nat × AV)) : Option AV := (zeroOf P u).bind fun z => match tkOf P u with
  | .st => (placesA P u).bind fun pl => (fillA (fun i => pl[i]?) z parts).map .agg
  | .arr _ e => (esz P e).bind fun n => (fillA (fun i => some (i * n, n)) z parts).map .agg
  | _ => none
theorem zdu (u : TypeId) (parts : Array (Nat × Operand)) : opA P cfg call q ⟨d, .build u parts, ty, pos, af, g⟩ t env s = (buildA P u (parts.toList.map fun x => (x.1, ev env x.2))).map (·, s) := by
  simp only [opA, buildA]
  cases zeroOf P u with
  | none => rfl
  | some z =>
    simp only [Option.bind_some]
    cases tkOf P u <;> first | rfl | (simp only [Option.map_bind]; rfl)
end
theorem zdv (d : Nat) (s : St) (xs : List AV) : boxA d s (.agg xs) = some (.ptr d ((s d).t + 1) 0, upd s d ⟨(s d).t + 1, .buf xs⟩) := rfl
theorem zdw (j : Nat) : (dead j).t = 0 := rfl
/-- What an entry holds, to be read. -/
def cellsE (e : Ent) (k : Nat) : Option (List AV) := match e.c with
  | .buf xs => if e.t = k then some xs else none
  | .frz xs => if e.t = k then some xs else none
  | _ => none
theorem cellsAt_E (s : St) (p k : Nat) : cellsAt s p k = cellsE (s p) k := by
  unfold cellsAt cellsE
  rcases s p with ⟨t', c⟩
  cases c <;> rfl
theorem cellsE_buf (t k : Nat) (xs : List AV) : cellsE ⟨t, .buf xs⟩ k = if t = k then some xs else none := rfl
def ldE (P : Program) (u : TypeId) (e : Ent) (k off : Nat) : Option AV := (cellsE e k).bind fun xs => partA P u xs off
theorem zdx (P : Program) (u : TypeId) (s : St) (p k off : Nat) : loadA P u s (.ptr p k off) = ldE P u (s p) k off := by
  simp only [loadA, cellsAt_E, ldE]
theorem zdy (t k : Nat) (a b : AV) : ldE Tryd.prog 25 ⟨t, .buf [a, b]⟩ k 0 = if t = k then some (.agg [a, b]) else none := by
  rw [ldE, cellsE_buf]
  by_cases e : t = k
  · simp [e, partA, sh24]
  · simp [e]
theorem zdz (t k : Nat) (a b : AV) : ldE Tryd.prog 4 ⟨t, .buf [a, b]⟩ k 0 = if t = k then some a else none := by
  rw [ldE, cellsE_buf]
  by_cases e : t = k
  · simp [e, partA, sh4]
  · simp [e]
theorem zea (t k : Nat) (a b : AV) : ldE Tryd.prog 23 ⟨t, .buf [a, b]⟩ k 1 = if t = k then some b else none := by
  rw [ldE, cellsE_buf]
  by_cases e : t = k
  · simp [e, partA, sh22]
  · simp [e]
/-- A struct of two cells put into an entry. -/
def stE (e : Ent) (p k : Nat) (s : St) (ys : List AV) : Option St :=
  match e with | ⟨t', .buf xs⟩ => if t' = k then (if ys.length ≤ xs.length then some (upd s p ⟨t', .buf (splice xs 0 ys)⟩) else none) else none | _ => none
theorem zeb (s : St) (p k : Nat) (a b : AV) : storeA Tryd.prog 25 s (.ptr p k 0) (.agg [a, b]) = stE (s p) p k s [a, b] := by
  simp only [storeA, settle, Option.bind_some, stE]
  cases h : s p with
  | mk t c => cases c <;> simp [esz24]
theorem zec (t k p : Nat) (s : St) (a b a' b' : AV) : stE ⟨t, .buf [a', b']⟩ p k s [a, b] = if t = k then some (upd s p ⟨t, .buf [a, b]⟩) else none := by
  simp [stE, splice]
/-- A field's address. -/
def faE (e : Ent) (p k off : Nat) : Option AV := if (cellsE e k).isSome = true then some (.ptr p k off) else none
theorem fa_0 (s : St) (p k : Nat) : fieldAddrA Tryd.prog 25 s (.ptr p k 0) 0 = faE (s p) p k 0 := by
  simp only [fieldAddrA, fd24_0, esz4, live, cellsAt_E, faE, Nat.zero_add]
theorem fa_1 (s : St) (p k : Nat) : fieldAddrA Tryd.prog 25 s (.ptr p k 0) 1 = faE (s p) p k 1 := by
  simp only [fieldAddrA, fd24_1, esz22, live, cellsAt_E, faE, Nat.zero_add]
theorem zed (t p k off : Nat) (xs : List AV) : faE ⟨t, .buf xs⟩ p k off = if t = k then some (.ptr p k off) else none := by
  rw [faE, cellsE_buf]
  by_cases e : t = k <;> simp [e]
theorem bd_0 : buildA Tryd.prog 25 [] = some (encA false .n []) := by
  simp only [buildA, zef, tk24, pl24, Option.bind_some, fillA]; rfl
theorem bd_2 (b : Bool) (g : Gk) (l : List Nat) : buildA Tryd.prog 25 [(0, .bool b), (1, encL g l)] = some (encA b g l) := by
  simp only [buildA, zef, tk24, pl24, Option.bind_some]
  cases g <;> rfl
theorem zee (b : Bool) (v : Nat) : buildA Tryd.prog 25 [(0, .bool b), (1, encR v)] = some (.agg [.bool b, encR v]) := bd_2 _ _ _
theorem fd_1 (a b : AV) : fieldA Tryd.prog 25 (.agg [a, b]) 1 = some b := by
  simp [fieldA, fd24_1, partA, sh22]

/-- A struct in a cell is what is told. -/
theorem finish_c (k : Bool) (xs : List Arg) (a p e : Nat) (x y : AV) (env : Env) (s : St) (os : List (List AV)) (ha : env a = .ptr p e 0) (hs : s p = ⟨e, .buf [x, y]⟩) (ho : outsA s 0 xs = some os) :
    finishP Tryd.prog k xs #[.cell a 25] env s = some (.tree (.agg [x, y]), os) := by
  rw [finishP_c1, ha, zdx, hs, zdy, if_pos rfl]
  simp only [Option.bind_some, settle, ho, Option.map_some]
theorem finish_ct (k : Bool) (xs : List Arg) (a p e u : Nat) (x y : AV) (b : Bool) (env : Env) (s : St) (os : List (List AV)) (ha : env a = .ptr p e 0) (hs : s p = ⟨e, .buf [x, y]⟩) (hu : env u = .bool b) (ho : outsA s 0 xs = some os) :
    finishP Tryd.prog k xs #[.cell a 25, .tmp u] env s = some (.tree (.tup [.agg [x, y], .bool b]), os) := by
  rw [finishP_c2, ha, zdx, hs, zdy, if_pos rfl, hu]
  simp only [Option.bind_some, settleL, settle, Option.map_some, ho]

theorem unA_not' (b : Bool) : unA .not (.bool b) = some (.bool (!b)) := rfl
theorem neq0 (x : Nat) : ((x : Int) != 0) = decide (x ≠ 0) := by
  rw [Bool.eq_iff_iff]; simp
set_option maxHeartbeats 2000000 in
theorem check_eq (n d : Nat) (neg : Bool) (g : Gk) (l : List Nat) (hl : Limbs l) : evalFn Tryd.prog cfg0 n (d+1) 69 [.tree (encA neg g l)] = some (.tree (.bool (chkN neg l)), [[]]) := by
  rw [evalFn_go _ Tryd.func69 (by unfold Tryd.f69; rfl) (by unfold Tryd.f69; decide) (Nat.le_of_ble_eq_true (by unfold Tryd.f69; rfl)) (by kernel_rfl)]
  unfold chkN
  by_cases h : (l.length : Int) ≤ 12
  rotate_left
  · have e1 : decide (l.length ≤ 12) = false := decide_eq_false (by omega)
    simp only [zaa, zab, zac, zad, zae, zaf, zag, zah, zai, zaj, zak, zal, zam, zan, zao, zap, zaq, zar, zas, zat, zau, zav, zaw, zax, zay, zaz, zba, zbb, zbc, zbd, zbe, zbf, zbg, zbh, zbi, zbj, Nat.reduceBEq, Bool.or_self, Bool.or_false, Bool.or_true, Bool.and_true, Bool.and_false, Bool.true_and, Bool.false_and, Option.isNone_none, Option.isNone_some, Option.isSome_some, Option.isSome_none, zbk, zbl, zbm, zbn, zbo, zbp, zbq, zbr, zbs, zbt, zbu, zbv, zbw, zbx, zby, zbz, zca, zcb, zcc, zcd, zce, zcf, zcg, zch, zci, zcj, zck, zcl, zcm, zcn, zco, zcp, zcq, zcr, zcs, zct, zcu, zcv, zcw, zcx, zcy, zcz, zda, zdb, zdc, zdd, zde, zdf, Option.getD_some, Option.getD_none, zet, zeu, zev, zew, zex, zey, zez, zfa, Option.map_some, Option.map_none, Option.bind_some, List.map_cons, List.map_nil, List.cons_append, List.nil_append, ↓reduceIte, Nat.reduceEqDiff, Nat.reduceAdd, decide_true, decide_false, Bool.true_eq_false, Bool.false_eq_true, env0, List.getElem?_cons_zero, List.getElem?_cons_succ, zdg, zdh, zdi, zdj, zdk, zdl, zdm, zdn, ia22, ld31, zdo, zdp, zdq, zdr, zds, zdt, zdu, zdv, zdw, zdx, zdy, zdz, zea, zeb, zec, fa_0, fa_1, zed, bd_0, bd_2, zee, fd_1, zef, Nat.zero_add, st0_1, h, e1, Bool.false_and]
    exact finish_tree _ _ _ _ _ _ (.bool false) _ _ (by simp only [zfa, ↓reduceIte]) rfl rfl
  have e1 : decide (l.length ≤ 12) = true := decide_eq_true (by omega)
  by_cases hz : l = []
  · subst hz
    have p1 : (((([] : List Nat).length : Nat) : Int) == 0) = true := rfl
    cases neg with
    | false =>
      simp only [zaa, zab, zac, zad, zae, zaf, zag, zah, zai, zaj, zak, zal, zam, zan, zao, zap, zaq, zar, zas, zat, zau, zav, zaw, zax, zay, zaz, zba, zbb, zbc, zbd, zbe, zbf, zbg, zbh, zbi, zbj, Nat.reduceBEq, Bool.or_self, Bool.or_false, Bool.or_true, Bool.and_true, Bool.and_false, Bool.true_and, Bool.false_and, Option.isNone_none, Option.isNone_some, Option.isSome_some, Option.isSome_none, zbk, zbl, zbm, zbn, zbo, zbp, zbq, zbr, zbs, zbt, zbu, zbv, zbw, zbx, zby, zbz, zca, zcb, zcc, zcd, zce, zcf, zcg, zch, zci, zcj, zck, zcl, zcm, zcn, zco, zcp, zcq, zcr, zcs, zct, zcu, zcv, zcw, zcx, zcy, zcz, zda, zdb, zdc, zdd, zde, zdf, Option.getD_some, Option.getD_none, zet, zeu, zev, zew, zex, zey, zez, zfa, Option.map_some, Option.map_none, Option.bind_some, List.map_cons, List.map_nil, List.cons_append, List.nil_append, ↓reduceIte, Nat.reduceEqDiff, Nat.reduceAdd, decide_true, decide_false, Bool.true_eq_false, Bool.false_eq_true, env0, List.getElem?_cons_zero, List.getElem?_cons_succ, zdg, zdh, zdi, zdj, zdk, zdl, zdm, zdn, ia22, ld31, zdo, zdp, zdq, zdr, zds, zdt, zdu, zdv, zdw, zdx, zdy, zdz, zea, zeb, zec, fa_0, fa_1, zed, bd_0, bd_2, zee, fd_1, zef, Nat.zero_add, st0_1, h, p1, unA_not', Bool.not_false]
      exact finish_tree _ _ _ _ _ _ (.bool true) _ _ (by simp only [zfa, ↓reduceIte]) rfl rfl
    | true =>
      have p2 : ¬ ((([] : List Nat).length : Nat) : Int) > 0 := by simp
      simp only [zaa, zab, zac, zad, zae, zaf, zag, zah, zai, zaj, zak, zal, zam, zan, zao, zap, zaq, zar, zas, zat, zau, zav, zaw, zax, zay, zaz, zba, zbb, zbc, zbd, zbe, zbf, zbg, zbh, zbi, zbj, Nat.reduceBEq, Bool.or_self, Bool.or_false, Bool.or_true, Bool.and_true, Bool.and_false, Bool.true_and, Bool.false_and, Option.isNone_none, Option.isNone_some, Option.isSome_some, Option.isSome_none, zbk, zbl, zbm, zbn, zbo, zbp, zbq, zbr, zbs, zbt, zbu, zbv, zbw, zbx, zby, zbz, zca, zcb, zcc, zcd, zce, zcf, zcg, zch, zci, zcj, zck, zcl, zcm, zcn, zco, zcp, zcq, zcr, zcs, zct, zcu, zcv, zcw, zcx, zcy, zcz, zda, zdb, zdc, zdd, zde, zdf, Option.getD_some, Option.getD_none, zet, zeu, zev, zew, zex, zey, zez, zfa, Option.map_some, Option.map_none, Option.bind_some, List.map_cons, List.map_nil, List.cons_append, List.nil_append, ↓reduceIte, Nat.reduceEqDiff, Nat.reduceAdd, decide_true, decide_false, Bool.true_eq_false, Bool.false_eq_true, env0, List.getElem?_cons_zero, List.getElem?_cons_succ, zdg, zdh, zdi, zdj, zdk, zdl, zdm, zdn, ia22, ld31, zdo, zdp, zdq, zdr, zds, zdt, zdu, zdv, zdw, zdx, zdy, zdz, zea, zeb, zec, fa_0, fa_1, zed, bd_0, bd_2, zee, fd_1, zef, Nat.zero_add, st0_1, h, p1, p2, unA_not', Bool.not_true]
      exact finish_tree _ _ _ _ _ _ (.bool false) _ _ (by simp only [zfa, ↓reduceIte]) rfl rfl
  · have hp : 0 < l.length := List.length_pos_iff.mpr hz
    have p1 : ((l.length : Int) == 0) = false := by rw [beq_eq_false_iff_ne]; omega
    have p2 : (l.length : Int) > 0 := by omega
    have p3 := i_sub Tryd.prog 3 (l.length : Int) 1 (by omega) (by omega)
    have p4 : (0 : Int) ≤ (l.length : Int) - 1 := by omega
    have p5 : (l.length : Int) - 1 < l.length := by omega
    have p6 : ((l.length : Int) - 1).toNat = l.length - 1 := by omega
    have p7 : l.length - 1 < l.length := by omega
    have q1 : decide (l.length = 0) = false := decide_eq_false (by omega)
    have q2 : decide (0 < l.length) = true := decide_eq_true hp
    simp only [zaa, zab, zac, zad, zae, zaf, zag, zah, zai, zaj, zak, zal, zam, zan, zao, zap, zaq, zar, zas, zat, zau, zav, zaw, zax, zay, zaz, zba, zbb, zbc, zbd, zbe, zbf, zbg, zbh, zbi, zbj, Nat.reduceBEq, Bool.or_self, Bool.or_false, Bool.or_true, Bool.and_true, Bool.and_false, Bool.true_and, Bool.false_and, Option.isNone_none, Option.isNone_some, Option.isSome_some, Option.isSome_none, zbk, zbl, zbm, zbn, zbo, zbp, zbq, zbr, zbs, zbt, zbu, zbv, zbw, zbx, zby, zbz, zca, zcb, zcc, zcd, zce, zcf, zcg, zch, zci, zcj, zck, zcl, zcm, zcn, zco, zcp, zcq, zcr, zcs, zct, zcu, zcv, zcw, zcx, zcy, zcz, zda, zdb, zdc, zdd, zde, zdf, Option.getD_some, Option.getD_none, zet, zeu, zev, zew, zex, zey, zez, zfa, Option.map_some, Option.map_none, Option.bind_some, List.map_cons, List.map_nil, List.cons_append, List.nil_append, ↓reduceIte, Nat.reduceEqDiff, Nat.reduceAdd, decide_true, decide_false, Bool.true_eq_false, Bool.false_eq_true, env0, List.getElem?_cons_zero, List.getElem?_cons_succ, zdg, zdh, zdi, zdj, zdk, zdl, zdm, zdn, ia22, ld31, zdo, zdp, zdq, zdr, zds, zdt, zdu, zdv, zdw, zdx, zdy, zdz, zea, zeb, zec, fa_0, fa_1, zed, bd_0, bd_2, zee, fd_1, zef, Nat.zero_add, st0_1, h, p1, p2, p3, p4, p5, p6, p7, e1, q1, q2, neq0, Bool.false_and, Bool.false_or, Bool.true_and]
    exact finish_tree _ _ _ _ _ _ (.bool (decide (l.getD (l.length - 1) 0 ≠ 0))) _ _ (by simp only [zfa, ↓reduceIte]) rfl rfl
end Go.Ab
