/- A number that may be, or 0; a number of a sign and limbs. Conditions: limbs in range. -/
import Derived.Test.YtaifnpbgamookaaDoorAbtA1
namespace Go.Ab
open Go.Proofs
set_option maxRecDepth 100000
set_option linter.unusedSimpArgs false

/-- A number by its digits. -/
abbrev canA (g : Gk) (z : Int) : AV := encA (decide (z < 0)) g (digs z.natAbs)
def gz (neg : Bool) (g : Gk) (l : List Nat) : Gk := if chkN neg l = true then g else .n
theorem cCheck (n d : Nat) (neg : Bool) (g : Gk) (l : List Nat) (hl : Limbs l) (D : Nat) (s : St) : callA cfg0 (evalFn Tryd.prog cfg0 n (d+1)) D s 69 [encA neg g l] = some (.bool (chkN neg l), s) :=
  callA_trees rfl (check_eq n d neg g l hl)
theorem cCheckR (n d : Nat) (b : Bool) (v : Nat) (D : Nat) (s : St) : callA cfg0 (evalFn Tryd.prog cfg0 n (d+1)) D s 69 [.agg [.bool b, encR v]] = some (.bool (chkN b (digs v)), s) :=
  cCheck n d b _ (digs v) (limbs_digs v) D s
theorem canA_of {neg : Bool} {g : Gk} {l : List Nat} (hl : Limbs l) (h : chkN neg l = true) : canA (gz neg g l) (numZ neg l) = encA neg g l := by
  obtain ⟨h1, h2, h3⟩ := numZ_is hl h
  unfold canA
  rw [h2, h3, gz, if_pos h]
theorem canA_no {neg : Bool} {g : Gk} {l : List Nat} (h : chkN neg l = false) : canA (gz neg g l) (numZ neg l) = encA false .n [] := by
  unfold canA
  rw [numZ_not h, gz, if_neg (by rw [h]; decide)]
  simp [digs_0]
set_option maxHeartbeats 2000000 in
theorem of_eq (n d : Nat) (neg : Bool) (g : Gk) (l : List Nat) (hl : Limbs l) : evalFn Tryd.prog cfg0 n (d+2) 50 [.tree (encA neg g l)] = some (.tree (canA (gz neg g l) (numZ neg l)), [[]]) := by
  rw [evalFn_go _ Tryd.func50 (by unfold Tryd.f50; rfl) (by unfold Tryd.f50; decide) (Nat.le_of_ble_eq_true (by unfold Tryd.f50; rfl)) (by kernel_rfl)]
  have c1 := fun D s => cCheck n d neg g l hl D s
  cases h : chkN neg l with
  | false =>
    rw [canA_no h]
    simp only [zaa, zab, zac, zad, zae, zaf, zag, zah, zai, zaj, zak, zal, zam, zan, zao, zap, zaq, zar, zas, zat, zau, zav, zaw, zax, zay, zaz, zba, zbb, zbc, zbd, zbe, zbf, zbg, zbh, zbi, zbj, Nat.reduceBEq, Bool.or_self, Bool.or_false, Bool.or_true, Bool.and_true, Bool.and_false, Bool.true_and, Bool.false_and, Option.isNone_none, Option.isNone_some, Option.isSome_some, Option.isSome_none, zbk, zbl, zbm, zbn, zbo, zbp, zbq, zbr, zbs, zbt, zbu, zbv, zbw, zbx, zby, zbz, zca, zcb, zcc, zcd, zce, zcf, zcg, zch, zci, zcj, zck, zcl, zcm, zcn, zco, zcp, zcq, zcr, zcs, zct, zcu, zcv, zcw, zcx, zcy, zcz, zda, zdb, zdc, zdd, zde, zdf, Option.getD_some, Option.getD_none, zet, zeu, zev, zew, zex, zey, zez, zfa, Option.map_some, Option.map_none, Option.bind_some, List.map_cons, List.map_nil, List.cons_append, List.nil_append, ↓reduceIte, Nat.reduceEqDiff, Nat.reduceAdd, decide_true, decide_false, Bool.true_eq_false, Bool.false_eq_true, env0, List.getElem?_cons_zero, List.getElem?_cons_succ, zdg, zdh, zdi, zdj, zdk, zdl, zdm, zdn, ia22, ld31, zdo, zdp, zdq, zdr, zds, zdt, zdu, zdv, zdw, zdx, zdy, zdz, zea, zeb, zec, fa_0, fa_1, zed, bd_0, bd_2, zee, fd_1, zef, Nat.zero_add, st0_1, c1, h, unA_not', Bool.not_false]
    exact finish_c _ _ 2 2 1 _ _ _ _ _ (by simp only [zfa, ↓reduceIte, Nat.reduceEqDiff]) (by simp only [zfa, ↓reduceIte, Nat.reduceEqDiff]) rfl
  | true =>
    rw [canA_of hl h]
    simp only [zaa, zab, zac, zad, zae, zaf, zag, zah, zai, zaj, zak, zal, zam, zan, zao, zap, zaq, zar, zas, zat, zau, zav, zaw, zax, zay, zaz, zba, zbb, zbc, zbd, zbe, zbf, zbg, zbh, zbi, zbj, Nat.reduceBEq, Bool.or_self, Bool.or_false, Bool.or_true, Bool.and_true, Bool.and_false, Bool.true_and, Bool.false_and, Option.isNone_none, Option.isNone_some, Option.isSome_some, Option.isSome_none, zbk, zbl, zbm, zbn, zbo, zbp, zbq, zbr, zbs, zbt, zbu, zbv, zbw, zbx, zby, zbz, zca, zcb, zcc, zcd, zce, zcf, zcg, zch, zci, zcj, zck, zcl, zcm, zcn, zco, zcp, zcq, zcr, zcs, zct, zcu, zcv, zcw, zcx, zcy, zcz, zda, zdb, zdc, zdd, zde, zdf, Option.getD_some, Option.getD_none, zet, zeu, zev, zew, zex, zey, zez, zfa, Option.map_some, Option.map_none, Option.bind_some, List.map_cons, List.map_nil, List.cons_append, List.nil_append, ↓reduceIte, Nat.reduceEqDiff, Nat.reduceAdd, decide_true, decide_false, Bool.true_eq_false, Bool.false_eq_true, env0, List.getElem?_cons_zero, List.getElem?_cons_succ, zdg, zdh, zdi, zdj, zdk, zdl, zdm, zdn, ia22, ld31, zdo, zdp, zdq, zdr, zds, zdt, zdu, zdv, zdw, zdx, zdy, zdz, zea, zeb, zec, fa_0, fa_1, zed, bd_0, bd_2, zee, fd_1, zef, Nat.zero_add, st0_1, c1, h, unA_not', Bool.not_true]
    exact finish_c _ _ 2 2 1 _ _ _ _ _ (by simp only [zfa, ↓reduceIte, Nat.reduceEqDiff]) (by simp only [zfa, ↓reduceIte, Nat.reduceEqDiff]) rfl
/-- A value that shows a number with a sign. -/
def IsN (w : AV) (z : Int) : Prop := ∃ neg g l, w = encA neg g l ∧ Limbs l ∧ numZ neg l = z
theorem isN_A (neg : Bool) (g : Gk) (l : List Nat) (hl : Limbs l) : IsN (encA neg g l) (numZ neg l) := ⟨neg, g, l, rfl, hl, rfl⟩
theorem numZ_can (z : Int) (h : z.natAbs < B ^ 12) : numZ (decide (z < 0)) (digs z.natAbs) = z := by
  have hc : chkN (decide (z < 0)) (digs z.natAbs) = true := by
    rw [chk_digs _ _ (fun h0 => decide_eq_false (by omega)), decide_eq_true h]
  rw [numZ, if_pos hc, val_digs]
  exact sgn_of z
theorem isN_can (g : Gk) (z : Int) (h : z.natAbs < B ^ 12) : IsN (canA g z) z := ⟨_, g, _, rfl, limbs_digs _, numZ_can z h⟩
theorem isN_Z (z : Int) (h : z.natAbs < B ^ 12) : IsN (encZ z) z := isN_can _ z h
theorem IsN.lt {w : AV} {z : Int} (h : IsN w z) : z.natAbs < B ^ 12 := by
  obtain ⟨neg, g, l, _, hl, rfl⟩ := h
  exact numZ_lt neg l hl
theorem IsN.tree {w : AV} {z : Int} (h : IsN w z) : isTree w = true := by
  obtain ⟨neg, g, l, rfl, _⟩ := h; rfl
theorem cOf (n d : Nat) {w : AV} {z : Int} (h : IsN w z) : ∃ g, ∀ D s, callA cfg0 (evalFn Tryd.prog cfg0 n (d+2)) D s 50 [w] = some (canA g z, s) := by
  obtain ⟨neg, g, l, rfl, hl, rfl⟩ := h
  exact ⟨_, fun D s => callA_trees rfl (of_eq n d neg g l hl)⟩
theorem qOf (n d : Nat) {w : AV} {z : Int} (h : IsN w z) : ∃ g, callQ (evalFn Tryd.prog cfg0 n (d+2)) 50 [w] = some (canA g z) := by
  obtain ⟨neg, g, l, rfl, hl, rfl⟩ := h
  exact ⟨_, callQ_trees rfl (of_eq n d neg g l hl)⟩
/-- The limbs of a number. -/
theorem num_can (g : Gk) (z : Int) (h : z.natAbs < B ^ 12) : Num (encL g (digs z.natAbs)) z.natAbs := ⟨_, sh_L g _, limbs_digs _, Nat.le_trans (digs_len _ 12 h) (by decide), val_digs _⟩
theorem made_end (neg : Bool) (v : Nat) : (.agg [.bool (neg && decide (v ≠ 0)), encR v] : AV) = encZ (sgn neg v) := by
  rw [encZ, sgn_neg, sgn_abs]
end Go.Ab
