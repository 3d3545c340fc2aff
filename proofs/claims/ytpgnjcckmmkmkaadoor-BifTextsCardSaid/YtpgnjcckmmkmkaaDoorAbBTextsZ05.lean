/- Several texts put together: AbbA2, AbbA3, AbbA4, AbbA5, AbbA6, AbMn2, AbbA7a, AbbA7, AbbA9, AbbT1, AbbT2, AbbT3. Conditions: as each part says. -/
import Derived.Test.YtpgnjcckmmkmkaaDoorAbBTextsZ04
/- A number that may be, or 0; a number of a sign and limbs. Conditions: limbs in range. -/
namespace Go.Ab
open Go.Proofs
set_option maxRecDepth 100000
set_option linter.unusedSimpArgs false

/-- A number by its digits. -/
abbrev canA (g : Gk) (z : Int) : AV := encA (decide (z < 0)) g (digs z.natAbs)
def gz (neg : Bool) (g : Gk) (l : List Nat) : Gk := if chkN neg l = true then g else .n
theorem cCheck (n d : Nat) (neg : Bool) (g : Gk) (l : List Nat) (hl : Limbs l) (D : Nat) (s : St) : callA cfg0 (evalFn Tryd.prog cfg0 n (d+1)) D s 15 [encA neg g l] = some (.bool (chkN neg l), s) :=
  callA_trees rfl (check_eq n d neg g l hl)
theorem cCheckR (n d : Nat) (b : Bool) (v : Nat) (D : Nat) (s : St) : callA cfg0 (evalFn Tryd.prog cfg0 n (d+1)) D s 15 [.agg [.bool b, encR v]] = some (.bool (chkN b (digs v)), s) :=
  cCheck n d b _ (digs v) (limbs_digs v) D s
theorem canA_of {neg : Bool} {g : Gk} {l : List Nat} (hl : Limbs l) (h : chkN neg l = true) : canA (gz neg g l) (numZ neg l) = encA neg g l := by
  obtain ⟨h1, h2, h3⟩ := numZ_is hl h
  unfold canA
  rw [h2, h3, gz, if_pos h]
theorem canA_no {neg : Bool} {g : Gk} {l : List Nat} (h : chkN neg l = false) : canA (gz neg g l) (numZ neg l) = encA false .n [] := by
  unfold canA
  rw [numZ_not h, gz, if_neg (by rw [h]; decide)]
  simp [digs_0]
set_option maxHeartbeats 2000000 in
theorem of_eq (n d : Nat) (neg : Bool) (g : Gk) (l : List Nat) (hl : Limbs l) : evalFn Tryd.prog cfg0 n (d+2) 26 [.tree (encA neg g l)] = some (.tree (canA (gz neg g l) (numZ neg l)), [[]]) := by
  rw [evalFn_go _ Tryd.func26 (by unfold Tryd.f26; rfl) (by unfold Tryd.f26; decide) (Nat.le_of_ble_eq_true (by unfold Tryd.f26; rfl)) (by kernel_rfl)]
  have c1 := fun D s => cCheck n d neg g l hl D s
  cases h : chkN neg l with
  | false =>
    rw [canA_no h]
    simp only [zaa, zab, zac, zad, zae, zaf, zag, zah, zai, zaj, zak, zal, zam, zan, zao, zap, zaq, zar, zas, zat, zau, zav, zaw, zax, zay, zaz, zba, zbb, zbc, zbd, zbe, zbf, zbg, zbh, zbi, zbj, Nat.reduceBEq, Bool.or_self, Bool.or_false, Bool.or_true, Bool.and_true, Bool.and_false, Bool.true_and, Bool.false_and, Option.isNone_none, Option.isNone_some, Option.isSome_some, Option.isSome_none, zbk, zbl, zbm, zbn, zbo, zbp, zbq, zbr, zbs, zbt, zbu, zbv, zbw, zbx, zby, zbz, zca, zcb, zcc, zcd, zce, zcf, zcg, zch, zci, zcj, zck, zcl, zcm, zcn, zco, zcp, zcq, zcr, zcs, zct, zcu, zcv, zcw, zcx, zcy, zcz, zda, zdb, zdc, zdd, zde, zdf, Option.getD_some, Option.getD_none, zet, zeu, zev, zew, zex, zey, zez, zfa, Option.map_some, Option.map_none, Option.bind_some, List.map_cons, List.map_nil, List.cons_append, List.nil_append, ↓reduceIte, Nat.reduceEqDiff, Nat.reduceAdd, decide_true, decide_false, Bool.true_eq_false, Bool.false_eq_true, env0, List.getElem?_cons_zero, List.getElem?_cons_succ, zdg, zdh, zdi, zdj, zdk, zdl, zdm, zdn, ia22, ld31, zdo, zdp, zdq, zdr, zds, zdt, zdu, zdv, zdw, zdx, zdy, zdz, zea, zeb, zec, fa_0, fa_1, zed, bd_0, bd_2, zee, fd_1, zef, Nat.zero_add, st0_1, c1, h, unA_not', Bool.not_false]
    exact finish_c _ _ 2 2 1 _ _ _ _ _ (by simp only [zfa, ↓reduceIte, Nat.reduceEqDiff]) (by simp only [zfa, ↓reduceIte, Nat.reduceEqDiff]) rfl
  | true =>
    rw [canA_of hl h]
    simp only [zaa, zab, zac, zad, zae, zaf, zag, zah, zai, zaj, zak, zal, zam, zan, zao, zap, zaq, zar, zas, zat, zau, zav, zaw, zax, zay, zaz, zba, zbb, zbc, zbd, zbe, zbf, zbg, zbh, zbi, zbj, Nat.reduceBEq, Bool.or_self, Bool.or_false, Bool.or_true, Bool.and_true, Bool.and_false, Bool.true_and, Bool.false_and, Option.isNone_none, Option.isNone_some, Option.isSome_some, Option.isSome_none, zbk, zbl, zbm, zbn, zbo, zbp, zbq, zbr, zbs, zbt, zbu, zbv, zbw, zbx, zby, zbz, zca, zcb, zcc, zcd, zce, zcf, zcg, zch, zci, zcj, zck, zcl, zcm, zcn, zco, zcp, zcq, zcr, zcs, zct, zcu, zcv, zcw, zcx, zcy, zcz, zda, zdb, zdc, zdd, zde, zdf, Option.getD_some, Option.getD_none, zet, zeu, zev, zew, zex, zey, zez, zfa, Option.map_some, Option.map_none, Option.bind_some, List.map_cons, List.map_nil, List.cons_append, List.nil_append, ↓reduceIte, Nat.reduceEqDiff, Nat.reduceAdd, decide_true, decide_false, Bool.true_eq_false, Bool.false_eq_true, env0, List.getElem?_cons_zero, List.getElem?_cons_succ, zdg, zdh, zdi, zdj, zdk, zdl, zdm, zdn, ia22, ld31, zdo, zdp, zdq, zdr, zds, zdt, zdu, zdv, zdw, zdx, zdy, zdz, zea, zeb, zec, fa_0, fa_1, zed, bd_0, bd_2, zee, fd_1, zef, Nat.zero_add, st0_1, c1, h, unA_not', Bool.not_true]
    exact finish_c _ _ 2 2 1 _ _ _ _ _ (by simp only [zfa, ↓reduceIte, Nat.reduceEqDiff]) (by simp only [zfa, ↓reduceIte, Nat.reduceEqDiff]) rfl
/-- A value that shows a number with a sign. -/
def IsN (w : AV) (z : Int) : Prop := ∃ neg g l, w = encA neg g l ∧ Limbs l ∧ numZ neg l = z
theorem isN_A (neg : Bool) (g : Gk) (l : List Nat) (hl : Limbs l) : IsN (encA neg g l) (numZ neg l) := ⟨neg, g, l, rfl, hl, rfl⟩
theorem numZ_can (z : Int) (h : z.natAbs < B ^ 12) : numZ (decide (z < 0)) (digs z.natAbs) = z := by
  have hc : chkN (decide (z < 0)) (digs z.natAbs) = true := by
    rw [chk_digs _ _ (fun h0 => decide_eq_false (by omega)), decide_eq_true h]
  rw [numZ, if_pos hc, val_digs]
  exact sgn_of z
theorem isN_can (g : Gk) (z : Int) (h : z.natAbs < B ^ 12) : IsN (canA g z) z := ⟨_, g, _, rfl, limbs_digs _, numZ_can z h⟩
theorem isN_Z (z : Int) (h : z.natAbs < B ^ 12) : IsN (encZ z) z := isN_can _ z h
theorem IsN.lt {w : AV} {z : Int} (h : IsN w z) : z.natAbs < B ^ 12 := by
  obtain ⟨neg, g, l, _, hl, rfl⟩ := h
  exact numZ_lt neg l hl
theorem IsN.tree {w : AV} {z : Int} (h : IsN w z) : isTree w = true := by
  obtain ⟨neg, g, l, rfl, _⟩ := h; rfl
theorem cOf (n d : Nat) {w : AV} {z : Int} (h : IsN w z) : ∃ g, ∀ D s, callA cfg0 (evalFn Tryd.prog cfg0 n (d+2)) D s 26 [w] = some (canA g z, s) := by
  obtain ⟨neg, g, l, rfl, hl, rfl⟩ := h
  exact ⟨_, fun D s => callA_trees rfl (of_eq n d neg g l hl)⟩
theorem qOf (n d : Nat) {w : AV} {z : Int} (h : IsN w z) : ∃ g, callQ (evalFn Tryd.prog cfg0 n (d+2)) 26 [w] = some (canA g z) := by
  obtain ⟨neg, g, l, rfl, hl, rfl⟩ := h
  exact ⟨_, callQ_trees rfl (of_eq n d neg g l hl)⟩
/-- The limbs of a number. -/
theorem num_can (g : Gk) (z : Int) (h : z.natAbs < B ^ 12) : Num (encL g (digs z.natAbs)) z.natAbs := ⟨_, sh_L g _, limbs_digs _, Nat.le_trans (digs_len _ 12 h) (by decide), val_digs _⟩
theorem made_end (neg : Bool) (v : Nat) : (.agg [.bool (neg && decide (v ≠ 0)), encR v] : AV) = encZ (sgn neg v) := by
  rw [encZ, sgn_neg, sgn_abs]
set_option maxHeartbeats 2000000 in
theorem made_eq (n d : Nat) (neg : Bool) (g : Gk) (l : List Nat) (hl : Limbs l) (hn : l.length < n) (hk : l.length ≤ 1000000) : evalFn Tryd.prog cfg0 n (d+2) 98 [.tree (.bool neg), .tree (encL g l)] = some (.tree (.tup [encZ (mkZ (sgn neg (val l))).1, .bool (mkZ (sgn neg (val l))).2]), [[], []]) := by
  rw [evalFn_go _ Tryd.func98 (by unfold Tryd.f98; rfl) (by unfold Tryd.f98; decide) (Nat.le_of_ble_eq_true (by unfold Tryd.f98; rfl)) (by kernel_rfl)]
  have c1 := norm_call n d g l hl hn hk
  have hdl : (digs (val l)).length ≤ l.length := digs_len _ _ (val_lt l hl)
  generalize hv : val l = v at *
  have c2 := fun b D s => cCheckR n d b v D s
  have hp : (((digs v).length : Nat) : Int) > 0 ↔ v ≠ 0 := by
    have := digs_len0 v
    omega
  have hd : decide ((((digs v).length : Nat) : Int) > 0) = decide (v ≠ 0) := by
    rw [decide_eq_decide]; exact hp
  have hc : ∀ b : Bool, (v = 0 → b = false) → chkN b (digs v) = decide (v < B ^ 12) := fun b hb => chk_digs b v hb
  have hm : mkZ (sgn neg v) = if v < B ^ 12 then (sgn neg v, true) else (0, false) := by rw [mkZ, sgn_abs]
  rw [hm]
  cases neg with
  | false =>
    have hcf := hc false (fun _ => rfl)
    by_cases hf : v < B ^ 12
    · rw [if_pos hf]
      simp only [zaa, zab, zac, zad, zae, zaf, zag, zah, zai, zaj, zak, zal, zam, zan, zao, zap, zaq, zar, zas, zat, zau, zav, zaw, zax, zay, zaz, zba, zbb, zbc, zbd, zbe, zbf, zbg, zbh, zbi, zbj, Nat.reduceBEq, Bool.or_self, Bool.or_false, Bool.or_true, Bool.and_true, Bool.and_false, Bool.true_and, Bool.false_and, Option.isNone_none, Option.isNone_some, Option.isSome_some, Option.isSome_none, zbk, zbl, zbm, zbn, zbo, zbp, zbq, zbr, zbs, zbt, zbu, zbv, zbw, zbx, zby, zbz, zca, zcb, zcc, zcd, zce, zcf, zcg, zch, zci, zcj, zck, zcl, zcm, zcn, zco, zcp, zcq, zcr, zcs, zct, zcu, zcv, zcw, zcx, zcy, zcz, zda, zdb, zdc, zdd, zde, zdf, Option.getD_some, Option.getD_none, zet, zeu, zev, zew, zex, zey, zez, zfa, Option.map_some, Option.map_none, Option.bind_some, List.map_cons, List.map_nil, List.cons_append, List.nil_append, ↓reduceIte, Nat.reduceEqDiff, Nat.reduceAdd, decide_true, decide_false, Bool.true_eq_false, Bool.false_eq_true, env0, List.getElem?_cons_zero, List.getElem?_cons_succ, zdg, zdh, zdi, zdj, zdk, zdl, zdm, zdn, ia22, ld31, zdo, zdp, zdq, zdr, zds, zdt, zdu, zdv, zdw, zdx, zdy, zdz, zea, zeb, zec, fa_0, fa_1, zed, bd_0, bd_2, zee, fd_1, zef, Nat.zero_add, st0_2, c1, lenR, c2, hcf, hf, unA_not', Bool.not_true]
      rw [← made_end]
      exact finish_ct _ _ 4 4 1 _ _ _ _ _ _ _ (by simp only [zfa, ↓reduceIte, Nat.reduceEqDiff]) (by simp only [zfa, ↓reduceIte, Nat.reduceEqDiff]; rfl) (by simp only [zfa, ↓reduceIte, Nat.reduceEqDiff]) rfl
    · rw [if_neg hf]
      simp only [zaa, zab, zac, zad, zae, zaf, zag, zah, zai, zaj, zak, zal, zam, zan, zao, zap, zaq, zar, zas, zat, zau, zav, zaw, zax, zay, zaz, zba, zbb, zbc, zbd, zbe, zbf, zbg, zbh, zbi, zbj, Nat.reduceBEq, Bool.or_self, Bool.or_false, Bool.or_true, Bool.and_true, Bool.and_false, Bool.true_and, Bool.false_and, Option.isNone_none, Option.isNone_some, Option.isSome_some, Option.isSome_none, zbk, zbl, zbm, zbn, zbo, zbp, zbq, zbr, zbs, zbt, zbu, zbv, zbw, zbx, zby, zbz, zca, zcb, zcc, zcd, zce, zcf, zcg, zch, zci, zcj, zck, zcl, zcm, zcn, zco, zcp, zcq, zcr, zcs, zct, zcu, zcv, zcw, zcx, zcy, zcz, zda, zdb, zdc, zdd, zde, zdf, Option.getD_some, Option.getD_none, zet, zeu, zev, zew, zex, zey, zez, zfa, Option.map_some, Option.map_none, Option.bind_some, List.map_cons, List.map_nil, List.cons_append, List.nil_append, ↓reduceIte, Nat.reduceEqDiff, Nat.reduceAdd, decide_true, decide_false, Bool.true_eq_false, Bool.false_eq_true, env0, List.getElem?_cons_zero, List.getElem?_cons_succ, zdg, zdh, zdi, zdj, zdk, zdl, zdm, zdn, ia22, ld31, zdo, zdp, zdq, zdr, zds, zdt, zdu, zdv, zdw, zdx, zdy, zdz, zea, zeb, zec, fa_0, fa_1, zed, bd_0, bd_2, zee, fd_1, zef, Nat.zero_add, st0_2, c1, lenR, c2, hcf, hf, unA_not', Bool.not_false]
      rw [encZ_0]
      exact finish_ct _ _ 4 4 1 _ _ _ _ _ _ _ (by simp only [zfa, ↓reduceIte, Nat.reduceEqDiff]) (by simp only [zfa, ↓reduceIte, Nat.reduceEqDiff]) (by simp only [zfa, ↓reduceIte, Nat.reduceEqDiff]) rfl
  | true =>
    have hcf := hc (decide (v ≠ 0)) (fun h => decide_eq_false (by simpa using h))
    by_cases hf : v < B ^ 12
    · rw [if_pos hf]
      simp only [zaa, zab, zac, zad, zae, zaf, zag, zah, zai, zaj, zak, zal, zam, zan, zao, zap, zaq, zar, zas, zat, zau, zav, zaw, zax, zay, zaz, zba, zbb, zbc, zbd, zbe, zbf, zbg, zbh, zbi, zbj, Nat.reduceBEq, Bool.or_self, Bool.or_false, Bool.or_true, Bool.and_true, Bool.and_false, Bool.true_and, Bool.false_and, Option.isNone_none, Option.isNone_some, Option.isSome_some, Option.isSome_none, zbk, zbl, zbm, zbn, zbo, zbp, zbq, zbr, zbs, zbt, zbu, zbv, zbw, zbx, zby, zbz, zca, zcb, zcc, zcd, zce, zcf, zcg, zch, zci, zcj, zck, zcl, zcm, zcn, zco, zcp, zcq, zcr, zcs, zct, zcu, zcv, zcw, zcx, zcy, zcz, zda, zdb, zdc, zdd, zde, zdf, Option.getD_some, Option.getD_none, zet, zeu, zev, zew, zex, zey, zez, zfa, Option.map_some, Option.map_none, Option.bind_some, List.map_cons, List.map_nil, List.cons_append, List.nil_append, ↓reduceIte, Nat.reduceEqDiff, Nat.reduceAdd, decide_true, decide_false, Bool.true_eq_false, Bool.false_eq_true, env0, List.getElem?_cons_zero, List.getElem?_cons_succ, zdg, zdh, zdi, zdj, zdk, zdl, zdm, zdn, ia22, ld31, zdo, zdp, zdq, zdr, zds, zdt, zdu, zdv, zdw, zdx, zdy, zdz, zea, zeb, zec, fa_0, fa_1, zed, bd_0, bd_2, zee, fd_1, zef, Nat.zero_add, st0_2, c1, lenR, hd, c2, hcf, hf, unA_not', Bool.not_true]
      rw [← made_end]
      exact finish_ct _ _ 4 4 1 _ _ _ _ _ _ _ (by simp only [zfa, ↓reduceIte, Nat.reduceEqDiff]) (by simp only [zfa, ↓reduceIte, Nat.reduceEqDiff]; rfl) (by simp only [zfa, ↓reduceIte, Nat.reduceEqDiff]) rfl
    · rw [if_neg hf]
      simp only [zaa, zab, zac, zad, zae, zaf, zag, zah, zai, zaj, zak, zal, zam, zan, zao, zap, zaq, zar, zas, zat, zau, zav, zaw, zax, zay, zaz, zba, zbb, zbc, zbd, zbe, zbf, zbg, zbh, zbi, zbj, Nat.reduceBEq, Bool.or_self, Bool.or_false, Bool.or_true, Bool.and_true, Bool.and_false, Bool.true_and, Bool.false_and, Option.isNone_none, Option.isNone_some, Option.isSome_some, Option.isSome_none, zbk, zbl, zbm, zbn, zbo, zbp, zbq, zbr, zbs, zbt, zbu, zbv, zbw, zbx, zby, zbz, zca, zcb, zcc, zcd, zce, zcf, zcg, zch, zci, zcj, zck, zcl, zcm, zcn, zco, zcp, zcq, zcr, zcs, zct, zcu, zcv, zcw, zcx, zcy, zcz, zda, zdb, zdc, zdd, zde, zdf, Option.getD_some, Option.getD_none, zet, zeu, zev, zew, zex, zey, zez, zfa, Option.map_some, Option.map_none, Option.bind_some, List.map_cons, List.map_nil, List.cons_append, List.nil_append, ↓reduceIte, Nat.reduceEqDiff, Nat.reduceAdd, decide_true, decide_false, Bool.true_eq_false, Bool.false_eq_true, env0, List.getElem?_cons_zero, List.getElem?_cons_succ, zdg, zdh, zdi, zdj, zdk, zdl, zdm, zdn, ia22, ld31, zdo, zdp, zdq, zdr, zds, zdt, zdu, zdv, zdw, zdx, zdy, zdz, zea, zeb, zec, fa_0, fa_1, zed, bd_0, bd_2, zee, fd_1, zef, Nat.zero_add, st0_2, c1, lenR, hd, c2, hcf, hf, unA_not', Bool.not_false]
      rw [encZ_0]
      exact finish_ct _ _ 4 4 1 _ _ _ _ _ _ _ (by simp only [zfa, ↓reduceIte, Nat.reduceEqDiff]) (by simp only [zfa, ↓reduceIte, Nat.reduceEqDiff]) (by simp only [zfa, ↓reduceIte, Nat.reduceEqDiff]) rfl
end Go.Ab

/- Numbers of ints, negatives, bits, sums. Conditions: limbs in range. -/
namespace Go.Ab
open Go.Proofs
set_option maxRecDepth 100000
set_option linter.unusedSimpArgs false

def madeV (z : Int) : AV := .tup [encZ (mkZ z).1, .bool (mkZ z).2]
theorem callA_bS (call : FuncId → List Arg → Option Out) (d : Nat) (s : St) (f : FuncId) {w : AV} {l : List Nat} (h : Sh w l) (b : Bool) (v : AV) (hc : ∀ g, call f [.tree (.bool b), .tree (encL g l)] = some (.tree v, [[], []])) : callA cfg0 call d s f [.bool b, w] = some (v, s) := by
  obtain ⟨g, e⟩ := h.arg f s 1
  have e0 : argA cfg0 f s 0 (.bool b) = some (.tree (.bool b)) := rfl
  have g0 : ∀ a, givesOf (.bool b) a = none := fun a => by cases a <;> rfl
  have l0 : ∀ a, lendsOf (.bool b) a = none := fun a => by cases a <;> rfl
  simp [callA, argsA, e, e0, g0, l0, givesL, lendsL, h.gives, h.lends, hc, backA, resA]
section
variable (n d : Nat) (hn : 100000 ≤ n) (D : Nat) (s : St)
include hn
theorem cMade {w : AV} {v : Nat} (h : Num w v) (neg : Bool) : callA cfg0 (evalFn Tryd.prog cfg0 n (d+2)) D s 98 [.bool neg, w] = some (madeV (sgn neg v), s) := by
  obtain ⟨l, hs, hl, hk, rfl⟩ := h
  exact callA_bS _ D s _ hs neg _ fun g => made_eq n d neg g l hl (by omega) (by omega)
omit hn in
theorem Num.isL {w : AV} {v : Nat} (h : Num w v) (ht : isTree w = true) : ∃ g l, w = encL g l ∧ Limbs l ∧ l.length ≤ 1000 ∧ val l = v := by
  obtain ⟨l, ⟨g, rfl⟩, hl, hk, hv⟩ := h
  cases g with
  | tight => exact ⟨.t, l, rfl, hl, hk, hv⟩
  | loose => exact ⟨.l, l, rfl, hl, hk, hv⟩
  | nil => exact ⟨.n, l, rfl, hl, hk, hv⟩
  | tok p t => simp [isTree] at ht
theorem qMade {w : AV} {v : Nat} (h : Num w v) (ht : isTree w = true) (neg : Bool) : callQ (evalFn Tryd.prog cfg0 n (d+2)) 98 [.bool neg, w] = some (madeV (sgn neg v)) := by
  obtain ⟨g, l, rfl, hl, hk, rfl⟩ := h.isL ht
  exact callQ_trees (by cases g <;> rfl) (made_eq n d neg g l hl (by omega) (by omega))
theorem qAdd {w w' : AV} {v v' : Nat} (h : Num w v) (h' : Num w' v') (ht : isTree w = true) (ht' : isTree w' = true) : callQ (evalFn Tryd.prog cfg0 n (d+2)) 42 [w, w'] = some (encR (v + v')) := by
  obtain ⟨g, l, rfl, hl, hk, rfl⟩ := h.isL ht
  obtain ⟨g', l', rfl, hl', hk', rfl⟩ := h'.isL ht'
  exact callQ_trees (by cases g <;> cases g' <;> rfl) (fnAdd_eq n d g g' l l' hl hl' (by omega) (by omega) (by omega) (by omega))
theorem qSub {w w' : AV} {v v' : Nat} (h : Num w v) (h' : Num w' v') (ht : isTree w = true) (ht' : isTree w' = true) : callQ (evalFn Tryd.prog cfg0 n (d+4)) 44 [w, w'] = some (encR (v - v')) := by
  obtain ⟨g, l, rfl, hl, hk, rfl⟩ := h.isL ht
  obtain ⟨g', l', rfl, hl', hk', rfl⟩ := h'.isL ht'
  exact callQ_trees (by cases g <;> cases g' <;> rfl) (fnSub_eq n d g g' l l' hl hl' (by omega) (by omega) (by omega) (by omega))
theorem qShl {w : AV} {v : Nat} (h : Num w v) (ht : isTree w = true) (z : Int) : callQ (evalFn Tryd.prog cfg0 n (d+2)) 41 [w, .int .i64 z] = some (encR (v * 2 ^ shn z)) := by
  obtain ⟨g, l, rfl, hl, hk, rfl⟩ := h.isL ht
  exact callQ_trees (by cases g <;> rfl) (fnShl_eq n d g l z hl (by omega) (by omega))
end
theorem tree_R (v : Nat) : isTree (encR v) = true := by
  unfold encR; split <;> rfl
theorem tree_L (g : Gk) (l : List Nat) : isTree (encL g l) = true := by cases g <;> rfl
theorem tree_Z (z : Int) : isTree (encZ z) = true := rfl

/-! ### Of -/
theorem conv3_55 (s : St) (z : Int) (h : -9223372036854775808 ≤ z) (h' : z ≤ 9223372036854775807) : convA Tryd.prog 3 79 s (.int .i64 z) = some (.int .u64 (((if z < 0 then 18446744073709551616 - z.natAbs else z.natAbs : Nat)) : Int)) := by
  simp only [convA, tk3, tk40, IntKind.wrap, IntKind.bits, IntKind.signed]
  congr 2
  simp only [Bool.false_and, Bool.false_eq_true, if_false]
  rw [show (2 : Int) ^ 64 = 18446744073709551616 from rfl]
  split <;> omega
theorem un_neg64 (x : Nat) (h : x < 18446744073709551616) : unA .neg (.int .u64 (x : Int)) = some (.int .u64 (((18446744073709551616 - x) % 18446744073709551616 : Nat) : Int)) := by
  simp only [unA, IntKind.wrap, IntKind.bits, IntKind.signed]
  congr 2
  simp; omega
def two22 (v w : AV) : Option AV := (fillA (fun i => some (i * 1, 1)) (rep 2 [AV.int .u32 0]) [(0, v), (1, w)]).map (AV.sl · 2 .tight)
theorem two22_int (x y : Int) : two22 (.int .u32 x) (.int .u32 y) = some (.sl [.int .u32 x, .int .u32 y] 2 .tight) := rfl
theorem opA_two (call : FuncId → List Arg → Option Out) (q : Bool) (d : Option Tmp) (ty : TypeId) (pos : String) (af : Array Edge) (g : Option (Nat × Bool)) (t : Nat) (env : Env) (s : St) (x y : Operand) :
    opA Tryd.prog cfg0 call q ⟨d, .buildSlice 25 2 #[(0, x), (1, y)], ty, pos, af, g⟩ t env s = (two22 (ev env x) (ev env y)).map (·, s) := by
  rw [opA_bs]
  simp only [tk22, esz31, zero31, Option.bind_some, List.map_cons, List.map_nil]
  rfl
theorem madeV_fit {z : Int} (h : z.natAbs < B ^ 12) : madeV z = .tup [encZ z, .bool true] := by rw [madeV, mkZ_fit h]
theorem B12_big : 18446744073709551616 ≤ B ^ 12 := by
  have : B ^ 2 ≤ B ^ 12 := Nat.pow_le_pow_right (by decide) (by decide)
  have e : B ^ 2 = 18446744073709551616 := by decide
  omega
theorem ext_0 (a b : AV) : extA 0 (.tup [a, b]) = some a := rfl
theorem ext_1 (a b : AV) : extA 1 (.tup [a, b]) = some b := rfl
theorem st_Z (s : St) (p k : Nat) (z : Int) : storeA Tryd.prog 27 s (.ptr p k 0) (encZ z) = stE (s p) p k s [.bool (decide (z < 0)), encR z.natAbs] := zeb s p k _ _
set_option maxHeartbeats 2000000 in
theorem of64_eq (n d : Nat) (hn : 100000 ≤ n) (z : Int) (h : -9223372036854775808 ≤ z) (h' : z ≤ 9223372036854775807) : evalFn Tryd.prog cfg0 n (d+3) 86 [.tree (.int .i64 z)] = some (.tree (encZ z), [[]]) := by
  rw [evalFn_go _ Tryd.func86 (by unfold Tryd.f86; rfl) (by unfold Tryd.f86; decide) (Nat.le_of_ble_eq_true (by unfold Tryd.f86; rfl)) (by kernel_rfl)]
  have hz : z.natAbs ≤ 9223372036854775808 := by omega
  have hfit : z.natAbs < B ^ 12 := by have := B12_big; omega
  have c0 := fun s => conv3_55 s z h h'
  have key : ∀ (x : Nat), x = z.natAbs → x < 18446744073709551616 →
      (∀ s, convA Tryd.prog 79 49 s (.int .u64 (x : Int)) = some (.int .u32 ((x % 4294967296 : Nat) : Int))) ∧
      binA Tryd.prog .shr 79 (.int .u64 (x : Int)) (.int .u64 32) = some (.int .u64 ((x / 4294967296 : Nat) : Int)) ∧
      (∀ s, convA Tryd.prog 79 49 s (.int .u64 ((x / 4294967296 : Nat) : Int)) = some (.int .u32 ((x / 4294967296 % 4294967296 : Nat) : Int))) ∧
      (∀ D s, callA cfg0 (evalFn Tryd.prog cfg0 n (d+2)) D s 98 [.bool (decide (z < 0)), .sl [.int .u32 ((x % 4294967296 : Nat) : Int), .int .u32 ((x / 4294967296 % 4294967296 : Nat) : Int)] 2 .tight] = some (.tup [encZ z, .bool true], s)) := by
    intro x hx hlt
    refine ⟨fun s => zdp s x, ?_, fun s => zdp s _, fun D s => ?_⟩
    · have := u_shr Tryd.prog 79 x .u64 32 (by decide) (by decide)
      rw [show (2 : Nat) ^ (32 : Int).toNat = 4294967296 from rfl] at this
      exact this
    · have hnum : Num (.sl [.int .u32 ((x % 4294967296 : Nat) : Int), .int .u32 ((x / 4294967296 % 4294967296 : Nat) : Int)] 2 .tight) x := by
        refine ⟨[x % 4294967296, x / 4294967296 % 4294967296], ⟨_, rfl⟩, limbs_cons (Nat.mod_lt _ (by decide)) (limbs_one (Nat.mod_lt _ (by decide))), by simp, ?_⟩
        show x % 4294967296 + 4294967296 * (x / 4294967296 % 4294967296 + 4294967296 * 0) = x
        omega
      have := cMade n d hn D s hnum (decide (z < 0))
      rw [hx, sgn_of, madeV_fit hfit] at this
      rw [hx]; exact this
  by_cases hneg : z < 0
  · rw [if_pos hneg] at c0
    have u := un_neg64 (18446744073709551616 - z.natAbs) (by omega)
    rw [show (18446744073709551616 - (18446744073709551616 - z.natAbs)) % 18446744073709551616 = z.natAbs by omega] at u
    obtain ⟨k1, k2, k3, k4⟩ := key z.natAbs rfl (by omega)
    rw [decide_eq_true hneg] at k4
    simp only [zaa, zab, zac, zad, zae, zaf, zag, zah, zai, zaj, zak, zal, zam, zan, zao, zap, zaq, zar, zas, zat, zau, zav, zaw, zax, zay, zaz, zba, zbb, zbc, zbd, zbe, zbf, zbg, zbh, zbi, zbj, Nat.reduceBEq, Bool.or_self, Bool.or_false, Bool.or_true, Bool.and_true, Bool.and_false, Bool.true_and, Bool.false_and, Option.isNone_none, Option.isNone_some, Option.isSome_some, Option.isSome_none, zbk, zbl, zbm, zbn, zbo, zbp, zbq, zbr, zbs, zbt, zbu, zbv, zbw, zbx, zby, zbz, zca, zcb, zcc, zcd, zce, zcf, zcg, zch, zci, zcj, zck, zcl, zcm, zcn, zco, zcp, zcq, zcr, zcs, zct, zcu, zcv, zcw, zcx, zcy, zcz, zda, zdb, zdc, zdd, zde, zdf, Option.getD_some, Option.getD_none, zet, zeu, zev, zew, zex, zey, zez, zfa, Option.map_some, Option.map_none, Option.bind_some, List.map_cons, List.map_nil, List.cons_append, List.nil_append, ↓reduceIte, Nat.reduceEqDiff, Nat.reduceAdd, decide_true, decide_false, Bool.true_eq_false, Bool.false_eq_true, env0, List.getElem?_cons_zero, List.getElem?_cons_succ, zdg, zdh, zdi, zdj, zdk, zdl, zdm, zdn, ia22, ld31, zdo, zdp, zdq, zdr, zds, zdt, zdu, zdv, zdw, zdx, zdy, zdz, zea, zeb, zec, fa_0, fa_1, zed, bd_0, bd_2, zee, fd_1, zef, Nat.zero_add, st0_1, c0, hneg, u, k1, k2, k3, opA_two, two22_int, k4, ext_0, ext_1, st_Z]
    exact finish_c _ _ 2 2 1 _ _ _ _ _ (by simp only [zfa, ↓reduceIte, Nat.reduceEqDiff]) (by simp only [zfa, ↓reduceIte, Nat.reduceEqDiff, hneg, decide_true, decide_false]) rfl
  · rw [if_neg hneg] at c0
    obtain ⟨k1, k2, k3, k4⟩ := key z.natAbs rfl (by omega)
    rw [decide_eq_false hneg] at k4
    simp only [zaa, zab, zac, zad, zae, zaf, zag, zah, zai, zaj, zak, zal, zam, zan, zao, zap, zaq, zar, zas, zat, zau, zav, zaw, zax, zay, zaz, zba, zbb, zbc, zbd, zbe, zbf, zbg, zbh, zbi, zbj, Nat.reduceBEq, Bool.or_self, Bool.or_false, Bool.or_true, Bool.and_true, Bool.and_false, Bool.true_and, Bool.false_and, Option.isNone_none, Option.isNone_some, Option.isSome_some, Option.isSome_none, zbk, zbl, zbm, zbn, zbo, zbp, zbq, zbr, zbs, zbt, zbu, zbv, zbw, zbx, zby, zbz, zca, zcb, zcc, zcd, zce, zcf, zcg, zch, zci, zcj, zck, zcl, zcm, zcn, zco, zcp, zcq, zcr, zcs, zct, zcu, zcv, zcw, zcx, zcy, zcz, zda, zdb, zdc, zdd, zde, zdf, Option.getD_some, Option.getD_none, zet, zeu, zev, zew, zex, zey, zez, zfa, Option.map_some, Option.map_none, Option.bind_some, List.map_cons, List.map_nil, List.cons_append, List.nil_append, ↓reduceIte, Nat.reduceEqDiff, Nat.reduceAdd, decide_true, decide_false, Bool.true_eq_false, Bool.false_eq_true, env0, List.getElem?_cons_zero, List.getElem?_cons_succ, zdg, zdh, zdi, zdj, zdk, zdl, zdm, zdn, ia22, ld31, zdo, zdp, zdq, zdr, zds, zdt, zdu, zdv, zdw, zdx, zdy, zdz, zea, zeb, zec, fa_0, fa_1, zed, bd_0, bd_2, zee, fd_1, zef, Nat.zero_add, st0_1, c0, hneg, k1, k2, k3, opA_two, two22_int, k4, ext_0, ext_1, st_Z]
    exact finish_c _ _ 2 2 1 _ _ _ _ _ (by simp only [zfa, ↓reduceIte, Nat.reduceEqDiff]) (by simp only [zfa, ↓reduceIte, Nat.reduceEqDiff, hneg, decide_true, decide_false]) rfl
theorem cOf64 (n d : Nat) (hn : 100000 ≤ n) (z : Int) (h : -9223372036854775808 ≤ z) (h' : z ≤ 9223372036854775807) (D : Nat) (s : St) : callA cfg0 (evalFn Tryd.prog cfg0 n (d+3)) D s 86 [.int .i64 z] = some (encZ z, s) :=
  callA_trees rfl (of64_eq n d hn z h h')

/-! ### Neg, Bits -/
theorem sgn_flip (z : Int) : sgn (!decide (z < 0)) z.natAbs = -z := by
  unfold sgn
  by_cases h : z < 0
  · simp [h]; omega
  · simp [h]; omega
end Go.Ab

/- Bits of a number, the compare, sums. Conditions: limbs in range. -/
namespace Go.Ab
open Go.Proofs
set_option maxRecDepth 100000
set_option linter.unusedSimpArgs false

theorem finish_i (k : Bool) (xs : List Arg) (t : Nat) (env : Env) (s : St) (z : Int) (os : List (List AV)) (hv : env t = .int .i64 z) (ho : outsA s 0 xs = some os) : finishP Tryd.prog k xs #[.tmp t] env s = some (.tree (.int .i64 z), os) :=
  finish_tree _ _ _ _ _ _ (.int .i64 z) _ _ hv rfl ho
theorem finish_b (k : Bool) (xs : List Arg) (t : Nat) (env : Env) (s : St) (b : Bool) (os : List (List AV)) (hv : env t = .bool b) (ho : outsA s 0 xs = some os) : finishP Tryd.prog k xs #[.tmp t] env s = some (.tree (.bool b), os) :=
  finish_tree _ _ _ _ _ _ (.bool b) _ _ hv rfl ho
theorem fd_can1 (a b : AV) : fieldA Tryd.prog 27 (.agg [a, b]) 1 = some b := fd_1 a b
/-! ### Cmp -/
theorem cmp_nn (a b : Int) (ha : ¬ a < 0) (hb : ¬ b < 0) : cmpZ a.natAbs b.natAbs = cmpI a b := by
  unfold cmpZ cmpI
  (repeat' split) <;> omega
theorem cmp_mm (a b : Int) (ha : a < 0) (hb : b < 0) : cmpZ b.natAbs a.natAbs = cmpI a b := by
  unfold cmpZ cmpI
  (repeat' split) <;> omega
set_option maxHeartbeats 4000000 in
theorem ncmp_eq (n d : Nat) (hn : 100000 ≤ n) {w w' : AV} {z z' : Int} (hw : IsN w z) (hw' : IsN w' z') : evalFn Tryd.prog cfg0 n (d+4) 76 [.tree w, .tree w'] = some (.tree (.int .i64 (cmpI z z')), [[], []]) := by
  obtain ⟨g, c1⟩ := qOf n (d + 1) hw
  obtain ⟨g', c2⟩ := qOf n (d + 1) hw'
  have hlt := hw.lt
  have hlt' := hw'.lt
  obtain ⟨neg, g0, l, rfl, hl, hz⟩ := hw
  obtain ⟨neg', g0', l', rfl, hl', hz'⟩ := hw'
  rw [evalFn_go _ Tryd.func76 (by unfold Tryd.f76; rfl) (by unfold Tryd.f76; decide) (Nat.le_of_ble_eq_true (by unfold Tryd.f76; rfl)) (by kernel_rfl)]
  by_cases ha : z < 0
  · by_cases hb : z' < 0
    · have c3 := fun D s => cCmp n d hn D s (num_can g' z' hlt') (num_can g z hlt)
      rw [cmp_mm z z' ha hb] at c3
      simp only [zaa, zab, zac, zad, zae, zaf, zag, zah, zai, zaj, zak, zal, zam, zan, zao, zap, zaq, zar, zas, zat, zau, zav, zaw, zax, zay, zaz, zba, zbb, zbc, zbd, zbe, zbf, zbg, zbh, zbi, zbj, Nat.reduceBEq, Bool.or_self, Bool.or_false, Bool.or_true, Bool.and_true, Bool.and_false, Bool.true_and, Bool.false_and, Option.isNone_none, Option.isNone_some, Option.isSome_some, Option.isSome_none, zbk, zbl, zbm, zbn, zbo, zbp, zbq, zbr, zbs, zbt, zbu, zbv, zbw, zbx, zby, zbz, zca, zcb, zcc, zcd, zce, zcf, zcg, zch, zci, zcj, zck, zcl, zcm, zcn, zco, zcp, zcq, zcr, zcs, zct, zcu, zcv, zcw, zcx, zcy, zcz, zda, zdb, zdc, zdd, zde, zdf, Option.getD_some, Option.getD_none, zet, zeu, zev, zew, zex, zey, zez, zfa, Option.map_some, Option.map_none, Option.bind_some, List.map_cons, List.map_nil, List.cons_append, List.nil_append, ↓reduceIte, Nat.reduceEqDiff, Nat.reduceAdd, decide_true, decide_false, Bool.true_eq_false, Bool.false_eq_true, env0, List.getElem?_cons_zero, List.getElem?_cons_succ, zdg, zdh, zdi, zdj, zdk, zdl, zdm, zdn, ia22, ld31, zdo, zdp, zdq, zdr, zds, zdt, zdu, zdv, zdw, zdx, zdy, zdz, zea, zeb, zec, fa_0, fa_1, zed, bd_0, bd_2, zee, fd_1, zef, Nat.zero_add, st0_2, c1, c2, ha, hb, unA_not', Bool.not_true, Bool.not_false, c3]
      exact finish_i _ _ _ _ _ _ _ (by simp only [zfa, ↓reduceIte]) rfl
    · simp only [zaa, zab, zac, zad, zae, zaf, zag, zah, zai, zaj, zak, zal, zam, zan, zao, zap, zaq, zar, zas, zat, zau, zav, zaw, zax, zay, zaz, zba, zbb, zbc, zbd, zbe, zbf, zbg, zbh, zbi, zbj, Nat.reduceBEq, Bool.or_self, Bool.or_false, Bool.or_true, Bool.and_true, Bool.and_false, Bool.true_and, Bool.false_and, Option.isNone_none, Option.isNone_some, Option.isSome_some, Option.isSome_none, zbk, zbl, zbm, zbn, zbo, zbp, zbq, zbr, zbs, zbt, zbu, zbv, zbw, zbx, zby, zbz, zca, zcb, zcc, zcd, zce, zcf, zcg, zch, zci, zcj, zck, zcl, zcm, zcn, zco, zcp, zcq, zcr, zcs, zct, zcu, zcv, zcw, zcx, zcy, zcz, zda, zdb, zdc, zdd, zde, zdf, Option.getD_some, Option.getD_none, zet, zeu, zev, zew, zex, zey, zez, zfa, Option.map_some, Option.map_none, Option.bind_some, List.map_cons, List.map_nil, List.cons_append, List.nil_append, ↓reduceIte, Nat.reduceEqDiff, Nat.reduceAdd, decide_true, decide_false, Bool.true_eq_false, Bool.false_eq_true, env0, List.getElem?_cons_zero, List.getElem?_cons_succ, zdg, zdh, zdi, zdj, zdk, zdl, zdm, zdn, ia22, ld31, zdo, zdp, zdq, zdr, zds, zdt, zdu, zdv, zdw, zdx, zdy, zdz, zea, zeb, zec, fa_0, fa_1, zed, bd_0, bd_2, zee, fd_1, zef, Nat.zero_add, st0_2, c1, c2, ha, hb, unA_not', Bool.not_true, Bool.not_false]
      rw [show cmpI z z' = -1 by rw [cmpI, if_pos (by omega)]]
      exact finish_i _ _ _ _ _ _ _ (by simp only [zfa, ↓reduceIte]) rfl
  · by_cases hb : z' < 0
    · simp only [zaa, zab, zac, zad, zae, zaf, zag, zah, zai, zaj, zak, zal, zam, zan, zao, zap, zaq, zar, zas, zat, zau, zav, zaw, zax, zay, zaz, zba, zbb, zbc, zbd, zbe, zbf, zbg, zbh, zbi, zbj, Nat.reduceBEq, Bool.or_self, Bool.or_false, Bool.or_true, Bool.and_true, Bool.and_false, Bool.true_and, Bool.false_and, Option.isNone_none, Option.isNone_some, Option.isSome_some, Option.isSome_none, zbk, zbl, zbm, zbn, zbo, zbp, zbq, zbr, zbs, zbt, zbu, zbv, zbw, zbx, zby, zbz, zca, zcb, zcc, zcd, zce, zcf, zcg, zch, zci, zcj, zck, zcl, zcm, zcn, zco, zcp, zcq, zcr, zcs, zct, zcu, zcv, zcw, zcx, zcy, zcz, zda, zdb, zdc, zdd, zde, zdf, Option.getD_some, Option.getD_none, zet, zeu, zev, zew, zex, zey, zez, zfa, Option.map_some, Option.map_none, Option.bind_some, List.map_cons, List.map_nil, List.cons_append, List.nil_append, ↓reduceIte, Nat.reduceEqDiff, Nat.reduceAdd, decide_true, decide_false, Bool.true_eq_false, Bool.false_eq_true, env0, List.getElem?_cons_zero, List.getElem?_cons_succ, zdg, zdh, zdi, zdj, zdk, zdl, zdm, zdn, ia22, ld31, zdo, zdp, zdq, zdr, zds, zdt, zdu, zdv, zdw, zdx, zdy, zdz, zea, zeb, zec, fa_0, fa_1, zed, bd_0, bd_2, zee, fd_1, zef, Nat.zero_add, st0_2, c1, c2, ha, hb, unA_not', Bool.not_true, Bool.not_false]
      rw [show cmpI z z' = 1 by rw [cmpI, if_neg (by omega), if_pos (by omega)]]
      exact finish_i _ _ _ _ _ _ _ (by simp only [zfa, ↓reduceIte]) rfl
    · have c3 := fun D s => cCmp n d hn D s (num_can g z hlt) (num_can g' z' hlt')
      rw [cmp_nn z z' ha hb] at c3
      simp only [zaa, zab, zac, zad, zae, zaf, zag, zah, zai, zaj, zak, zal, zam, zan, zao, zap, zaq, zar, zas, zat, zau, zav, zaw, zax, zay, zaz, zba, zbb, zbc, zbd, zbe, zbf, zbg, zbh, zbi, zbj, Nat.reduceBEq, Bool.or_self, Bool.or_false, Bool.or_true, Bool.and_true, Bool.and_false, Bool.true_and, Bool.false_and, Option.isNone_none, Option.isNone_some, Option.isSome_some, Option.isSome_none, zbk, zbl, zbm, zbn, zbo, zbp, zbq, zbr, zbs, zbt, zbu, zbv, zbw, zbx, zby, zbz, zca, zcb, zcc, zcd, zce, zcf, zcg, zch, zci, zcj, zck, zcl, zcm, zcn, zco, zcp, zcq, zcr, zcs, zct, zcu, zcv, zcw, zcx, zcy, zcz, zda, zdb, zdc, zdd, zde, zdf, Option.getD_some, Option.getD_none, zet, zeu, zev, zew, zex, zey, zez, zfa, Option.map_some, Option.map_none, Option.bind_some, List.map_cons, List.map_nil, List.cons_append, List.nil_append, ↓reduceIte, Nat.reduceEqDiff, Nat.reduceAdd, decide_true, decide_false, Bool.true_eq_false, Bool.false_eq_true, env0, List.getElem?_cons_zero, List.getElem?_cons_succ, zdg, zdh, zdi, zdj, zdk, zdl, zdm, zdn, ia22, ld31, zdo, zdp, zdq, zdr, zds, zdt, zdu, zdv, zdw, zdx, zdy, zdz, zea, zeb, zec, fa_0, fa_1, zed, bd_0, bd_2, zee, fd_1, zef, Nat.zero_add, st0_2, c1, c2, ha, hb, unA_not', Bool.not_true, Bool.not_false, c3]
      exact finish_i _ _ _ _ _ _ _ (by simp only [zfa, ↓reduceIte]) rfl
theorem cNcmp (n d : Nat) (hn : 100000 ≤ n) {w w' : AV} {z z' : Int} (hw : IsN w z) (hw' : IsN w' z') (D : Nat) (s : St) : callA cfg0 (evalFn Tryd.prog cfg0 n (d+4)) D s 76 [w, w'] = some (.int .i64 (cmpI z z'), s) :=
  callA_trees (by simp [hw.tree, hw'.tree]) (ncmp_eq n d hn hw hw')

/-! ### add -/
theorem bool_eql (t : TypeId) (ht : tkOf Tryd.prog t = .bool) (a b : Bool) : binA Tryd.prog .eql t (.bool a) (.bool b) = some (.bool (a == b)) := by
  simp only [binA, ht]
theorem bool_neq (t : TypeId) (ht : tkOf Tryd.prog t = .bool) (a b : Bool) : binA Tryd.prog .neq t (.bool a) (.bool b) = some (.bool (!(a == b))) := by
  simp only [binA, ht]
theorem add_same (a b : Int) (h : decide (a < 0) = decide (b < 0)) : sgn (decide (a < 0)) (a.natAbs + b.natAbs) = a + b := by
  unfold sgn
  by_cases ha : a < 0
  · have hb : b < 0 := by rw [decide_eq_true ha] at h; exact of_decide_eq_true h.symm
    simp only [ha, decide_true, if_true]; omega
  · have hb : ¬ b < 0 := by rw [decide_eq_false ha] at h; exact of_decide_eq_false h.symm
    simp only [ha, decide_false, Bool.false_eq_true, if_false]; omega
theorem add_less (a b : Int) (h : decide (a < 0) ≠ decide (b < 0)) (hc : a.natAbs < b.natAbs) : sgn (decide (b < 0)) (b.natAbs - a.natAbs) = a + b := by
  unfold sgn
  by_cases ha : a < 0 <;> by_cases hb : b < 0 <;> simp only [ha, hb, decide_true, decide_false, if_true, Bool.false_eq_true, if_false] at h ⊢ <;> first | omega | exact absurd rfl h
theorem add_more (a b : Int) (h : decide (a < 0) ≠ decide (b < 0)) (hc : ¬ a.natAbs < b.natAbs) : sgn (decide (a < 0)) (a.natAbs - b.natAbs) = a + b := by
  unfold sgn
  by_cases ha : a < 0 <;> by_cases hb : b < 0 <;> simp only [ha, hb, decide_true, decide_false, if_true, Bool.false_eq_true, if_false] at h ⊢ <;> first | omega | exact absurd rfl h
theorem lt13 {a b : Nat} (ha : a < B ^ 12) (hb : b < B ^ 12) : a + b < B ^ 13 := by
  have : B ^ 12 * 4 ≤ B ^ 13 := by rw [show (13 : Nat) = 12 + 1 from rfl, Nat.pow_succ]; exact Nat.mul_le_mul_left _ (by decide)
  omega
theorem madeV_eq (z : Int) : madeV z = .tup [encZ (mkZ z).1, .bool (mkZ z).2] := rfl
end Go.Ab

/- Op: sums, differences, products, quotients. Conditions: numbers that are shown. -/
namespace Go.Ab
open Go.Proofs
set_option maxRecDepth 100000
set_option linter.unusedSimpArgs false

theorem mul_sgn (a b : Int) : sgn (!(decide (a < 0) == decide (b < 0))) (a.natAbs * b.natAbs) = a * b := by
  have h := Int.natAbs_mul a b
  by_cases ha : a < 0 <;> by_cases hb : b < 0
  · have := Int.mul_pos_of_neg_of_neg ha hb
    simp only [ha, hb, decide_true, beq_self_eq_true, Bool.not_true, sgn, Bool.false_eq_true, if_false]
    rw [← h]; omega
  · have : a * b ≤ 0 := Int.mul_nonpos_of_nonpos_of_nonneg (by omega) (by omega)
    simp only [ha, hb, decide_true, decide_false, sgn, if_true, show (!(true == false)) = true from rfl]
    rw [← h]; omega
  · have : a * b ≤ 0 := Int.mul_nonpos_of_nonneg_of_nonpos (by omega) (by omega)
    simp only [ha, hb, decide_true, decide_false, sgn, if_true, show (!(false == true)) = true from rfl]
    rw [← h]; omega
  · have : 0 ≤ a * b := Int.mul_nonneg (by omega) (by omega)
    simp only [ha, hb, decide_false, beq_self_eq_true, Bool.not_true, sgn, Bool.false_eq_true, if_false]
    rw [← h]; omega
theorem nat_tdiv (x y : Nat) : (x : Int).tdiv (y : Int) = ((x / y : Nat) : Int) := rfl
theorem nat_tmod (x y : Nat) : (x : Int).tmod (y : Int) = ((x % y : Nat) : Int) := rfl
theorem abs_neg' {a : Int} (h : a < 0) : a = -(a.natAbs : Int) := by omega
theorem abs_pos' {a : Int} (h : ¬ a < 0) : a = (a.natAbs : Int) := by omega
theorem quo_sgn (a b : Int) : sgn (!(decide (a < 0) == decide (b < 0))) (a.natAbs / b.natAbs) = a.tdiv b := by
  by_cases ha : a < 0 <;> by_cases hb : b < 0 <;> simp only [ha, hb, decide_true, decide_false, beq_self_eq_true, Bool.not_true, sgn, Bool.false_eq_true, if_false, show (!(true == false)) = true from rfl, show (!(false == true)) = true from rfl, if_true]
  · have h1 := abs_neg' ha; have h2 := abs_neg' hb
    generalize a.natAbs = x at *; generalize b.natAbs = y at *
    subst h1 h2; rw [Int.neg_tdiv, Int.tdiv_neg, Int.neg_neg, nat_tdiv]
  · have h1 := abs_neg' ha; have h2 := abs_pos' hb
    generalize a.natAbs = x at *; generalize b.natAbs = y at *
    subst h1 h2; rw [Int.neg_tdiv, nat_tdiv]
  · have h1 := abs_pos' ha; have h2 := abs_neg' hb
    generalize a.natAbs = x at *; generalize b.natAbs = y at *
    subst h1 h2; rw [Int.tdiv_neg, nat_tdiv]
  · have h1 := abs_pos' ha; have h2 := abs_pos' hb
    generalize a.natAbs = x at *; generalize b.natAbs = y at *
    subst h1 h2; rw [nat_tdiv]
theorem rem_sgn (a b : Int) : sgn (decide (a < 0)) (a.natAbs % b.natAbs) = a.tmod b := by
  by_cases ha : a < 0 <;> by_cases hb : b < 0 <;> simp only [ha, decide_true, decide_false, sgn, Bool.false_eq_true, if_false, if_true]
  · have h1 := abs_neg' ha; have h2 := abs_neg' hb
    generalize a.natAbs = x at *; generalize b.natAbs = y at *
    subst h1 h2; rw [Int.neg_tmod, Int.tmod_neg, nat_tmod]
  · have h1 := abs_neg' ha; have h2 := abs_pos' hb
    generalize a.natAbs = x at *; generalize b.natAbs = y at *
    subst h1 h2; rw [Int.neg_tmod, nat_tmod]
  · have h1 := abs_pos' ha; have h2 := abs_neg' hb
    generalize a.natAbs = x at *; generalize b.natAbs = y at *
    subst h1 h2; rw [Int.tmod_neg, nat_tmod]
  · have h1 := abs_pos' ha; have h2 := abs_pos' hb
    generalize a.natAbs = x at *; generalize b.natAbs = y at *
    subst h1 h2; rw [nat_tmod]
theorem st0_3' (u v w : AV) : st0 [.tree u, .tree v, .tree w] = dead := by
  funext j
  match j with
  | 0 | 1 | 2 | _ + 3 => simp [st0, dead]

section
variable (n d : Nat) (hn : 100000 ≤ n) {w w' : AV} {z z' : Int} (hw : IsN w z) (hw' : IsN w' z')
include hn hw hw'
set_option maxHeartbeats 8000000
end
end Go.Ab

/- A number as an int, if it is one. Conditions: numbers that are shown. -/
namespace Go.Ab
open Go.Proofs
set_option maxRecDepth 100000
set_option linter.unusedSimpArgs false

def isI64 (z : Int) : Bool := decide (-9223372036854775808 ≤ z) && decide (z < 9223372036854775808)
def intZ (z : Int) : AV := if isI64 z = true then .tup [.int .i64 z, .bool true] else .tup [.int .i64 0, .bool false]
theorem finish_ib (k : Bool) (xs : List Arg) (t u : Nat) (env : Env) (s : St) (z : Int) (b : Bool) (os : List (List AV)) (hv : env t = .int .i64 z) (hu : env u = .bool b) (ho : outsA s 0 xs = some os) :
    finishP Tryd.prog k xs #[.tmp t, .tmp u] env s = some (.tree (.tup [.int .i64 z, .bool b]), os) := by
  simp only [finishP_t2, finish, List.mapM_cons, List.mapM_nil, hv, hu, Option.pure_def, Option.bind_eq_bind, Option.bind_some, settleL, settle, Option.map_some, ho]
theorem conv55_3 (s : St) (x : Nat) (h : x < 18446744073709551616) : convA Tryd.prog 79 3 s (.int .u64 (x : Int)) = some (.int .i64 (if x < 9223372036854775808 then (x : Int) else (x : Int) - 18446744073709551616)) := by
  have e : IntKind.i64.wrap (x : Int) = if x < 9223372036854775808 then (x : Int) else (x : Int) - 18446744073709551616 := by
    simp [IntKind.wrap, IntKind.bits, IntKind.signed]
    (repeat' split) <;> omega
  simp only [convA, tk3, tk40, e]
theorem len2_val (l : List Nat) (hl : Limbs l) (h : l.length ≤ 2) : val l < 18446744073709551616 := by
  have := val_lt l hl
  have h2 : B ^ l.length ≤ B ^ 2 := Nat.pow_le_pow_right (by decide) h
  have e : B ^ 2 = 18446744073709551616 := by decide
  omega
set_option maxHeartbeats 4000000 in
theorem int_eq (n d : Nat) (hn : 100000 ≤ n) {w : AV} {z : Int} (hw : IsN w z) : evalFn Tryd.prog cfg0 n (d+3) 28 [.tree w] = some (.tree (intZ z), [[]]) := by
  obtain ⟨g, c1⟩ := cOf n d hw
  have hlt := hw.lt
  obtain ⟨neg0, g0, l0, rfl, _, _⟩ := hw
  rw [evalFn_go _ Tryd.func28 (by unfold Tryd.f28; rfl) (by unfold Tryd.f28; decide) (Nat.le_of_ble_eq_true (by unfold Tryd.f28; rfl)) (by kernel_rfl)]
  have hl := limbs_digs z.natAbs
  have hv := val_digs z.natAbs
  have hdl : ∀ k, (digs z.natAbs).length ≤ k ↔ z.natAbs < B ^ k := digs_len_le z.natAbs
  obtain ⟨l, hle⟩ : ∃ l, digs z.natAbs = l := ⟨_, rfl⟩
  rw [hle] at hl hv hdl
  by_cases h2 : (l.length : Int) > 2
  · have hb : ¬ z.natAbs < B ^ 2 := fun h => by have := (hdl 2).mpr h; omega
    have e : B ^ 2 = 18446744073709551616 := by decide
    rw [e] at hb
    have hi : isI64 z = false := by
      unfold isI64
      by_cases hz : z < 0
      · rw [decide_eq_false (show ¬ -9223372036854775808 ≤ z by omega)]; rfl
      · rw [decide_eq_false (show ¬ z < 9223372036854775808 by omega), Bool.and_false]
    rw [intZ, if_neg (by rw [hi]; decide)]
    simp only [zaa, zab, zac, zad, zae, zaf, zag, zah, zai, zaj, zak, zal, zam, zan, zao, zap, zaq, zar, zas, zat, zau, zav, zaw, zax, zay, zaz, zba, zbb, zbc, zbd, zbe, zbf, zbg, zbh, zbi, zbj, Nat.reduceBEq, Bool.or_self, Bool.or_false, Bool.or_true, Bool.and_true, Bool.and_false, Bool.true_and, Bool.false_and, Option.isNone_none, Option.isNone_some, Option.isSome_some, Option.isSome_none, zbk, zbl, zbm, zbn, zbo, zbp, zbq, zbr, zbs, zbt, zbu, zbv, zbw, zbx, zby, zbz, zca, zcb, zcc, zcd, zce, zcf, zcg, zch, zci, zcj, zck, zcl, zcm, zcn, zco, zcp, zcq, zcr, zcs, zct, zcu, zcv, zcw, zcx, zcy, zcz, zda, zdb, zdc, zdd, zde, zdf, Option.getD_some, Option.getD_none, zet, zeu, zev, zew, zex, zey, zez, zfa, Option.map_some, Option.map_none, Option.bind_some, List.map_cons, List.map_nil, List.cons_append, List.nil_append, ↓reduceIte, Nat.reduceEqDiff, Nat.reduceAdd, decide_true, decide_false, Bool.true_eq_false, Bool.false_eq_true, env0, List.getElem?_cons_zero, List.getElem?_cons_succ, zdg, zdh, zdi, zdj, zdk, zdl, zdm, zdn, ia22, ld31, zdo, zdp, zdq, zdr, zds, zdt, zdu, zdv, zdw, zdx, zdy, zdz, zea, zeb, zec, fa_0, fa_1, zed, bd_0, bd_2, zee, fd_1, zef, Nat.zero_add, st0_1, c1, hle, h2]
    exact finish_ib _ _ _ _ _ _ _ _ _ (by simp only [zfa, ↓reduceIte, Nat.reduceEqDiff]) (by simp only [zfa, ↓reduceIte, Nat.reduceEqDiff]) rfl
  have hx64 : z.natAbs < 18446744073709551616 := by rw [← hv]; exact len2_val l hl (by omega)
  simp only [zaa, zab, zac, zad, zae, zaf, zag, zah, zai, zaj, zak, zal, zam, zan, zao, zap, zaq, zar, zas, zat, zau, zav, zaw, zax, zay, zaz, zba, zbb, zbc, zbd, zbe, zbf, zbg, zbh, zbi, zbj, Nat.reduceBEq, Bool.or_self, Bool.or_false, Bool.or_true, Bool.and_true, Bool.and_false, Bool.true_and, Bool.false_and, Option.isNone_none, Option.isNone_some, Option.isSome_some, Option.isSome_none, zbk, zbl, zbm, zbn, zbo, zbp, zbq, zbr, zbs, zbt, zbu, zbv, zbw, zbx, zby, zbz, zca, zcb, zcc, zcd, zce, zcf, zcg, zch, zci, zcj, zck, zcl, zcm, zcn, zco, zcp, zcq, zcr, zcs, zct, zcu, zcv, zcw, zcx, zcy, zcz, zda, zdb, zdc, zdd, zde, zdf, Option.getD_some, Option.getD_none, zet, zeu, zev, zew, zex, zey, zez, zfa, Option.map_some, Option.map_none, Option.bind_some, List.map_cons, List.map_nil, List.cons_append, List.nil_append, ↓reduceIte, Nat.reduceEqDiff, Nat.reduceAdd, decide_true, decide_false, Bool.true_eq_false, Bool.false_eq_true, env0, List.getElem?_cons_zero, List.getElem?_cons_succ, zdg, zdh, zdi, zdj, zdk, zdl, zdm, zdn, ia22, ld31, zdo, zdp, zdq, zdr, zds, zdt, zdu, zdv, zdw, zdx, zdy, zdz, zea, zeb, zec, fa_0, fa_1, zed, bd_0, bd_2, zee, fd_1, zef, Nat.zero_add, st0_1, c1, hle, h2, den_loop]
  refine loop_ends (X := Nat) (fun i env s => env 1 = .ptr 1 1 0 ∧ s 1 = ⟨1, .buf [.bool (decide (z < 0)), encL g l]⟩ ∧ env 14 = encL g l ∧ env 15 = .int .i64 (l.length : Int) ∧ env 16 = .int .i64 (i : Int) ∧ env 4 = .int .u64 (val (l.take i) : Int) ∧ i ≤ l.length ∧ outsA s 0 [.tree (encA neg0 g0 l0)] = some [[]]) (fun i => l.length - i) (fun _ => (.tree (intZ z), [[]])) ?_ n 0 _ _ (by omega) ⟨rfl, rfl, rfl, rfl, rfl, rfl, Nat.zero_le _, rfl⟩
  intro k i hx ih env s ⟨e1, hs, e14, e15, e16, e4, hi, ho⟩
  by_cases hp : i = l.length
  · subst hp
    have q1 : ¬ ((l.length : Int) < (l.length : Int)) := by omega
    rw [List.take_length, hv] at e4
    by_cases hz : z < 0
    · by_cases hr : z.natAbs ≤ 9223372036854775808
      · have hr' : (z.natAbs : Int) ≤ 9223372036854775808 := by omega
        have u := un_neg64 z.natAbs (by omega)
        rw [Nat.mod_eq_of_lt (by omega)] at u
        have c2 := conv55_3 s (18446744073709551616 - z.natAbs) (by omega)
        rw [if_neg (by omega), show ((18446744073709551616 - z.natAbs : Nat) : Int) - 18446744073709551616 = z by omega] at c2
        have hi : isI64 z = true := by
          unfold isI64
          rw [decide_eq_true (show -9223372036854775808 ≤ z by omega), decide_eq_true (show z < 9223372036854775808 by omega)]; rfl
        rw [intZ, if_pos hi]
        simp only [zaa, zab, zac, zad, zae, zaf, zag, zah, zai, zaj, zak, zal, zam, zan, zao, zap, zaq, zar, zas, zat, zau, zav, zaw, zax, zay, zaz, zba, zbb, zbc, zbd, zbe, zbf, zbg, zbh, zbi, zbj, Nat.reduceBEq, Bool.or_self, Bool.or_false, Bool.or_true, Bool.and_true, Bool.and_false, Bool.true_and, Bool.false_and, Option.isNone_none, Option.isNone_some, Option.isSome_some, Option.isSome_none, zbk, zbl, zbm, zbn, zbo, zbp, zbq, zbr, zbs, zbt, zbu, zbv, zbw, zbx, zby, zbz, zca, zcb, zcc, zcd, zce, zcf, zcg, zch, zci, zcj, zck, zcl, zcm, zcn, zco, zcp, zcq, zcr, zcs, zct, zcu, zcv, zcw, zcx, zcy, zcz, zda, zdb, zdc, zdd, zde, zdf, Option.getD_some, Option.getD_none, zet, zeu, zev, zew, zex, zey, zez, zfa, Option.map_some, Option.map_none, Option.bind_some, List.map_cons, List.map_nil, List.cons_append, List.nil_append, ↓reduceIte, Nat.reduceEqDiff, Nat.reduceAdd, decide_true, decide_false, Bool.true_eq_false, Bool.false_eq_true, zdg, zdh, zdi, zdj, zdk, zdl, zdm, zdn, ia22, ld31, zdo, zdp, zdq, zdr, zds, zdt, zdu, zdv, zdw, zdx, zdy, zdz, zea, zeb, zec, fa_0, fa_1, zed, bd_0, bd_2, zee, fd_1, zef, Nat.zero_add, e1, hs, e14, e15, e16, e4, q1, hz, hr', u, c2]
        exact finish_ib _ _ _ _ _ _ _ _ _ (by simp only [zfa, ↓reduceIte, Nat.reduceEqDiff]) (by simp only [zfa, ↓reduceIte, Nat.reduceEqDiff]) ho
      · have hr' : ¬ (z.natAbs : Int) ≤ 9223372036854775808 := by omega
        have hi : isI64 z = false := by
          unfold isI64
          rw [decide_eq_false (show ¬ -9223372036854775808 ≤ z by omega)]; rfl
        rw [intZ, if_neg (by rw [hi]; decide)]
        simp only [zaa, zab, zac, zad, zae, zaf, zag, zah, zai, zaj, zak, zal, zam, zan, zao, zap, zaq, zar, zas, zat, zau, zav, zaw, zax, zay, zaz, zba, zbb, zbc, zbd, zbe, zbf, zbg, zbh, zbi, zbj, Nat.reduceBEq, Bool.or_self, Bool.or_false, Bool.or_true, Bool.and_true, Bool.and_false, Bool.true_and, Bool.false_and, Option.isNone_none, Option.isNone_some, Option.isSome_some, Option.isSome_none, zbk, zbl, zbm, zbn, zbo, zbp, zbq, zbr, zbs, zbt, zbu, zbv, zbw, zbx, zby, zbz, zca, zcb, zcc, zcd, zce, zcf, zcg, zch, zci, zcj, zck, zcl, zcm, zcn, zco, zcp, zcq, zcr, zcs, zct, zcu, zcv, zcw, zcx, zcy, zcz, zda, zdb, zdc, zdd, zde, zdf, Option.getD_some, Option.getD_none, zet, zeu, zev, zew, zex, zey, zez, zfa, Option.map_some, Option.map_none, Option.bind_some, List.map_cons, List.map_nil, List.cons_append, List.nil_append, ↓reduceIte, Nat.reduceEqDiff, Nat.reduceAdd, decide_true, decide_false, Bool.true_eq_false, Bool.false_eq_true, zdg, zdh, zdi, zdj, zdk, zdl, zdm, zdn, ia22, ld31, zdo, zdp, zdq, zdr, zds, zdt, zdu, zdv, zdw, zdx, zdy, zdz, zea, zeb, zec, fa_0, fa_1, zed, bd_0, bd_2, zee, fd_1, zef, Nat.zero_add, e1, hs, e14, e15, e16, e4, q1, hz, hr', unA_not', Bool.not_true, Bool.not_false]
        exact finish_ib _ _ _ _ _ _ _ _ _ (by simp only [zfa, ↓reduceIte, Nat.reduceEqDiff]) (by simp only [zfa, ↓reduceIte, Nat.reduceEqDiff]) ho
    · by_cases hr : z.natAbs < 9223372036854775808
      · have hr' : (z.natAbs : Int) < 9223372036854775808 := by omega
        have c2 := conv55_3 s z.natAbs (by omega)
        rw [if_pos hr, show ((z.natAbs : Nat) : Int) = z by omega] at c2
        have hi : isI64 z = true := by
          unfold isI64
          rw [decide_eq_true (show -9223372036854775808 ≤ z by omega), decide_eq_true (show z < 9223372036854775808 by omega)]; rfl
        rw [intZ, if_pos hi]
        rw [show ((z.natAbs : Nat) : Int) = z by omega] at e4 hr'
        simp only [zaa, zab, zac, zad, zae, zaf, zag, zah, zai, zaj, zak, zal, zam, zan, zao, zap, zaq, zar, zas, zat, zau, zav, zaw, zax, zay, zaz, zba, zbb, zbc, zbd, zbe, zbf, zbg, zbh, zbi, zbj, Nat.reduceBEq, Bool.or_self, Bool.or_false, Bool.or_true, Bool.and_true, Bool.and_false, Bool.true_and, Bool.false_and, Option.isNone_none, Option.isNone_some, Option.isSome_some, Option.isSome_none, zbk, zbl, zbm, zbn, zbo, zbp, zbq, zbr, zbs, zbt, zbu, zbv, zbw, zbx, zby, zbz, zca, zcb, zcc, zcd, zce, zcf, zcg, zch, zci, zcj, zck, zcl, zcm, zcn, zco, zcp, zcq, zcr, zcs, zct, zcu, zcv, zcw, zcx, zcy, zcz, zda, zdb, zdc, zdd, zde, zdf, Option.getD_some, Option.getD_none, zet, zeu, zev, zew, zex, zey, zez, zfa, Option.map_some, Option.map_none, Option.bind_some, List.map_cons, List.map_nil, List.cons_append, List.nil_append, ↓reduceIte, Nat.reduceEqDiff, Nat.reduceAdd, decide_true, decide_false, Bool.true_eq_false, Bool.false_eq_true, zdg, zdh, zdi, zdj, zdk, zdl, zdm, zdn, ia22, ld31, zdo, zdp, zdq, zdr, zds, zdt, zdu, zdv, zdw, zdx, zdy, zdz, zea, zeb, zec, fa_0, fa_1, zed, bd_0, bd_2, zee, fd_1, zef, Nat.zero_add, e1, hs, e14, e15, e16, e4, q1, hz, hr', c2, unA_not', Bool.not_true, Bool.not_false]
        exact finish_ib _ _ _ _ _ _ _ _ _ (by simp only [zfa, ↓reduceIte, Nat.reduceEqDiff]) (by simp only [zfa, ↓reduceIte, Nat.reduceEqDiff]) ho
      · have hr' : ¬ (z.natAbs : Int) < 9223372036854775808 := by omega
        have hi : isI64 z = false := by
          unfold isI64
          rw [decide_eq_false (show ¬ z < 9223372036854775808 by omega), Bool.and_false]
        rw [intZ, if_neg (by rw [hi]; decide)]
        simp only [zaa, zab, zac, zad, zae, zaf, zag, zah, zai, zaj, zak, zal, zam, zan, zao, zap, zaq, zar, zas, zat, zau, zav, zaw, zax, zay, zaz, zba, zbb, zbc, zbd, zbe, zbf, zbg, zbh, zbi, zbj, Nat.reduceBEq, Bool.or_self, Bool.or_false, Bool.or_true, Bool.and_true, Bool.and_false, Bool.true_and, Bool.false_and, Option.isNone_none, Option.isNone_some, Option.isSome_some, Option.isSome_none, zbk, zbl, zbm, zbn, zbo, zbp, zbq, zbr, zbs, zbt, zbu, zbv, zbw, zbx, zby, zbz, zca, zcb, zcc, zcd, zce, zcf, zcg, zch, zci, zcj, zck, zcl, zcm, zcn, zco, zcp, zcq, zcr, zcs, zct, zcu, zcv, zcw, zcx, zcy, zcz, zda, zdb, zdc, zdd, zde, zdf, Option.getD_some, Option.getD_none, zet, zeu, zev, zew, zex, zey, zez, zfa, Option.map_some, Option.map_none, Option.bind_some, List.map_cons, List.map_nil, List.cons_append, List.nil_append, ↓reduceIte, Nat.reduceEqDiff, Nat.reduceAdd, decide_true, decide_false, Bool.true_eq_false, Bool.false_eq_true, zdg, zdh, zdi, zdj, zdk, zdl, zdm, zdn, ia22, ld31, zdo, zdp, zdq, zdr, zds, zdt, zdu, zdv, zdw, zdx, zdy, zdz, zea, zeb, zec, fa_0, fa_1, zed, bd_0, bd_2, zee, fd_1, zef, Nat.zero_add, e1, hs, e14, e15, e16, e4, q1, hz, hr', unA_not', Bool.not_true, Bool.not_false]
        exact finish_ib _ _ _ _ _ _ _ _ _ (by simp only [zfa, ↓reduceIte, Nat.reduceEqDiff]) (by simp only [zfa, ↓reduceIte, Nat.reduceEqDiff]) ho
  · have q1 : (i : Int) < (l.length : Int) := by omega
    have q2 : (0 : Int) ≤ (i : Int) := by omega
    have q3 : i < l.length := by omega
    have hxi := getD_lt l hl i
    have hti := val_take_lt l hl i
    have hst := val_take_succ' l i
    have m1 := i_mul Tryd.prog 3 32 (i : Int) (by omega) (by omega)
    have hi1 : i = 0 ∨ i = 1 := by omega
    have m2 := u_shl Tryd.prog 79 (l.getD i 0) .i64 (32 * (i : Int)) (by omega) (by omega)
    rw [show (32 * (i : Int)).toNat = 32 * i by omega] at m2
    have hB : B ^ i = 2 ^ (32 * i) := B_pow i
    have hsm : l.getD i 0 * 2 ^ (32 * i) < 18446744073709551616 := by
      rcases hi1 with rfl | rfl
      · omega
      · have : (2 : Nat) ^ (32 * 1) = 4294967296 := by decide
        omega
    rw [Nat.mod_eq_of_lt hsm] at m2
    have hor := shl_or (l.getD i 0) (val (l.take i)) (32 * i) (by rw [← hB]; exact hti)
    have hnew : val (l.take i) + l.getD i 0 * 2 ^ (32 * i) = val (l.take (i + 1)) := by rw [hst, hB, Nat.mul_comm]
    have hb64 : val (l.take i) < 18446744073709551616 := len2_val _ (hl.take i) (by rw [List.length_take]; omega)
    have m3 := u_or Tryd.prog 79 (val (l.take i)) (l.getD i 0 * 2 ^ (32 * i)) hb64 hsm
    rw [hor, hnew] at m3
    have f4 := i_add Tryd.prog 3 (i : Int) 1 (by omega) (by omega)
    simp only [zaa, zab, zac, zad, zae, zaf, zag, zah, zai, zaj, zak, zal, zam, zan, zao, zap, zaq, zar, zas, zat, zau, zav, zaw, zax, zay, zaz, zba, zbb, zbc, zbd, zbe, zbf, zbg, zbh, zbi, zbj, Nat.reduceBEq, Bool.or_self, Bool.or_false, Bool.or_true, Bool.and_true, Bool.and_false, Bool.true_and, Bool.false_and, Option.isNone_none, Option.isNone_some, Option.isSome_some, Option.isSome_none, zbk, zbl, zbm, zbn, zbo, zbp, zbq, zbr, zbs, zbt, zbu, zbv, zbw, zbx, zby, zbz, zca, zcb, zcc, zcd, zce, zcf, zcg, zch, zci, zcj, zck, zcl, zcm, zcn, zco, zcp, zcq, zcr, zcs, zct, zcu, zcv, zcw, zcx, zcy, zcz, zda, zdb, zdc, zdd, zde, zdf, Option.getD_some, Option.getD_none, zet, zeu, zev, zew, zex, zey, zez, zfa, Option.map_some, Option.map_none, Option.bind_some, List.map_cons, List.map_nil, List.cons_append, List.nil_append, ↓reduceIte, Nat.reduceEqDiff, Nat.reduceAdd, decide_true, decide_false, Bool.true_eq_false, Bool.false_eq_true, zdg, zdh, zdi, zdj, zdk, zdl, zdm, zdn, ia22, ld31, zdo, zdp, zdq, zdr, zds, zdt, zdu, zdv, zdw, zdx, zdy, zdz, zea, zeb, zec, fa_0, fa_1, zed, bd_0, bd_2, zee, fd_1, zef, Nat.zero_add, e1, e14, e15, e16, e4, q1, q2, q3, Int.toNat_natCast, hxi, m1, m2, m3, f4]
    refine ih (i + 1) _ _ (by omega) rfl ⟨?_, hs, ?_, ?_, ?_, ?_, by omega, ho⟩
    · simp only [zfa, ↓reduceIte, Nat.reduceEqDiff, e1]
    · simp only [zfa, ↓reduceIte, Nat.reduceEqDiff, e14]
    · simp only [zfa, ↓reduceIte, Nat.reduceEqDiff, e15]
    · simp only [zfa, ↓reduceIte, Nat.reduceEqDiff]; rfl
    · simp only [zfa, ↓reduceIte, Nat.reduceEqDiff]
theorem cInt (n d : Nat) (hn : 100000 ≤ n) {w : AV} {z : Int} (hw : IsN w z) (D : Nat) (s : St) : callA cfg0 (evalFn Tryd.prog cfg0 n (d+3)) D s 28 [w] = some (intZ z, s) :=
  callA_trees (by simp [hw.tree]) (int_eq n d hn hw)
end Go.Ab

/- Shifts of numbers with signs: plain arithmetic. -/
namespace Go.Ab
/-- A number times two so often; below 0: by two, downwards. -/
def shZ (z k : Int) : Int := if 0 ≤ k then z * 2 ^ k.toNat else z.fdiv (2 ^ (-k).toNat)
theorem shZ_0 (k : Int) : shZ 0 k = 0 := by
  unfold shZ; split <;> simp
theorem shZ_down (z : Int) (N : Nat) : shZ z (-(N : Int)) = z.fdiv (2 ^ N) := by
  unfold shZ
  split
  · have : N = 0 := by omega
    subst this; simp
  · rw [Int.neg_neg, Int.toNat_natCast]
theorem shZ_up (z : Int) (N : Nat) : shZ z (N : Int) = z * 2 ^ N := by
  unfold shZ
  rw [if_pos (by omega), Int.toNat_natCast]
theorem fdiv_neg_pow (x : Nat) (hx : 0 < x) (N : Nat) : (-(x : Int)).fdiv (2 ^ N) = -(((x - 1) / 2 ^ N + 1 : Nat) : Int) := by
  obtain ⟨y, rfl⟩ : ∃ y, x = y + 1 := ⟨x - 1, by omega⟩
  have e : ((2 : Int) ^ N) = ((2 ^ N : Nat) : Int) := by simp
  have hp : 0 < 2 ^ N := Nat.two_pow_pos N
  rw [e, Int.fdiv_eq_ediv_of_nonneg _ (by omega)]
  generalize 2 ^ N = p at *
  rw [Nat.add_sub_cancel]
  have h := Nat.div_add_mod y p
  have hm := Nat.mod_lt y hp
  generalize y / p = q at *
  generalize y % p = r at *
  subst h
  have e1 : -((p * q + r + 1 : Nat) : Int) = -((q : Int) + 1) * (p : Int) + ((p : Int) - 1 - r) := by
    push_cast
    rw [Int.neg_mul, Int.add_mul, Int.one_mul, Int.mul_comm (p : Int)]
    omega
  rw [e1, Int.add_comm, Int.add_mul_ediv_right _ _ (by omega), Int.ediv_eq_zero_of_lt (by omega) (by omega)]
  omega
theorem fdiv_pos_pow (x : Nat) (N : Nat) : (x : Int).fdiv (2 ^ N) = ((x / 2 ^ N : Nat) : Int) := by
  have e : ((2 : Int) ^ N) = ((2 ^ N : Nat) : Int) := by simp
  rw [e, Int.fdiv_eq_ediv_of_nonneg _ (Int.natCast_nonneg _)]; rfl
theorem down_neg (z : Int) (N : Nat) (h : z < 0) : sgn true ((z.natAbs - 1) / 2 ^ N + 1) = shZ z (-(N : Int)) := by
  rw [shZ_down]
  have h1 : z = -(z.natAbs : Int) := by omega
  generalize hx : z.natAbs = x at *
  subst h1
  rw [fdiv_neg_pow x (by omega)]; rfl
theorem down_pos (z : Int) (N : Nat) (h : ¬ z < 0) : sgn false (z.natAbs / 2 ^ N) = shZ z (-(N : Int)) := by
  rw [shZ_down]
  have h1 : z = (z.natAbs : Int) := by omega
  generalize hx : z.natAbs = x at *
  subst h1
  rw [fdiv_pos_pow]; rfl
theorem up_sgn (z : Int) (N : Nat) : sgn (decide (z < 0)) (z.natAbs * 2 ^ N) = shZ z (N : Int) := by
  rw [shZ_up]
  have e : ((2 : Int) ^ N) = ((2 ^ N : Nat) : Int) := by simp
  rw [e]
  generalize 2 ^ N = p
  unfold sgn
  by_cases h : z < 0
  · rw [decide_eq_true h, if_pos rfl]
    have h1 : z = -(z.natAbs : Int) := by omega
    generalize z.natAbs = x at *
    subst h1
    rw [Int.neg_mul]; simp
  · rw [decide_eq_false h, if_neg (by decide)]
    have h1 : z = (z.natAbs : Int) := by omega
    generalize z.natAbs = x at *
    subst h1
    simp
theorem B_le (k N : Nat) (h : 32 * k ≤ N) : B ^ k ≤ 2 ^ N := by rw [B_pow]; exact Nat.pow_le_pow_right (by decide) h
theorem le_B (k N : Nat) (h : N ≤ 32 * k) : 2 ^ N ≤ B ^ k := by rw [B_pow]; exact Nat.pow_le_pow_right (by decide) h
theorem lt_B (k N : Nat) (h : N < 32 * k) : 2 ^ N < B ^ k := by rw [B_pow]; exact Nat.pow_lt_pow_right (by decide) h
theorem far_down0 (z : Int) (N : Nat) (h : z.natAbs < B ^ 12) (hN : 10000 < N) : shZ z (-(N : Int)) = if z < 0 then -1 else 0 := by
  have hp : B ^ 12 ≤ 2 ^ N := B_le 12 N (by omega)
  by_cases hz : z < 0
  · rw [if_pos hz, ← down_neg z N hz, Nat.div_eq_of_lt (by omega)]; rfl
  · rw [if_neg hz, ← down_pos z N hz, Nat.div_eq_of_lt (by omega)]; rfl
theorem far_up0 (z : Int) (N : Nat) (h0 : z ≠ 0) (hN : 384 < N) : ¬ (shZ z (N : Int)).natAbs < B ^ 12 := by
  have hp : B ^ 12 ≤ 2 ^ N := B_le 12 N (by omega)
  rw [← up_sgn, sgn_abs]
  have : 1 * 2 ^ N ≤ z.natAbs * 2 ^ N := Nat.mul_le_mul_right _ (by omega)
  omega
end Go.Ab

/- Shifts of numbers. Conditions: numbers that are shown. -/
namespace Go.Ab
open Go.Proofs
set_option maxRecDepth 100000
set_option linter.unusedSimpArgs false

theorem intZ_no {z : Int} (h : isI64 z = false) : intZ z = .tup [.int .i64 0, .bool false] := by rw [intZ, if_neg (by rw [h]; decide)]
theorem intZ_is {z : Int} (h : isI64 z = true) : intZ z = .tup [.int .i64 z, .bool true] := by rw [intZ, if_pos h]
theorem isI64_iff (z : Int) : isI64 z = true ↔ -9223372036854775808 ≤ z ∧ z < 9223372036854775808 := by
  unfold isI64; simp
theorem un_negi (x : Int) (h : -9223372036854775807 ≤ x) (h' : x ≤ 9223372036854775807) : unA .neg (.int .i64 x) = some (.int .i64 (-x)) := by
  have := i64_wrap (0 - x) (by omega) (by omega)
  simp only [unA, this]
  congr 2; omega
theorem max_abs (x : Int) : foldA max2A (.int .i64 x) [.int .i64 (-x)] = some (.int .i64 (x.natAbs : Int)) := by
  simp only [foldA, max2A, Option.bind_some]
  congr 2
  split <;> omega
theorem cAddOne (n d : Nat) (hn : 100000 ≤ n) (D : Nat) (s : St) (v : Nat) (h : v < B ^ 12) : callA cfg0 (evalFn Tryd.prog cfg0 n (d+2)) D s 42 [encR v, .sl [.int .u32 1] 1 .tight] = some (encR (v + 1), s) :=
  cAdd n d hn D s (num_R v 12 (by decide) h) (num_one 1 (by decide))
theorem cSubOne (n d : Nat) (hn : 100000 ≤ n) (D : Nat) (s : St) (g : Gk) (z : Int) (h : z.natAbs < B ^ 12) : callA cfg0 (evalFn Tryd.prog cfg0 n (d+4)) D s 44 [encL g (digs z.natAbs), .sl [.int .u32 1] 1 .tight] = some (encR (z.natAbs - 1), s) :=
  cSub n d hn D s (num_can g z h) (num_one 1 (by decide))
theorem lessK (z' : Int) (back : Bool) : (if back = true then -z' else z') = if (!(decide (z' < 0) == back)) = true then -(z'.natAbs : Int) else (z'.natAbs : Int) := by
  cases back <;> by_cases h : z' < 0 <;> simp [h] <;> omega
theorem far_down (z k : Int) (h : z.natAbs < B ^ 12) (hk : k < -10000) : madeV (shZ z k) = .tup [encZ (if z < 0 then -1 else 0), .bool true] := by
  obtain ⟨N, rfl⟩ : ∃ N : Nat, k = -(N : Int) := ⟨k.natAbs, by omega⟩
  rw [far_down0 z N h (by omega)]
  refine madeV_fit ?_
  have : 1 < B ^ 12 := Nat.one_lt_pow (by decide) (by decide)
  split
  · exact this
  · exact Nat.lt_of_succ_lt this
theorem far_up (z k : Int) (h0 : z ≠ 0) (_h : z.natAbs < B ^ 12) (hk : 384 < k) : madeV (shZ z k) = .tup [encZ 0, .bool false] := by
  obtain ⟨N, rfl⟩ : ∃ N : Nat, k = (N : Int) := ⟨k.toNat, by omega⟩
  rw [madeV, mkZ_not (far_up0 z N h0 (by omega))]
theorem tag4 (b c : Bool) (h : (!(b == c)) = true) : (b == c) = false := by simpa using h
/-- Behind an operation: of the temporaries and the store only what is told. -/
theorem forgetS {P : Program} {cfg : Cfg} {call : FuncId → List Arg → Option Out} {q : Bool} {all : Array Oper} {d : Option Tmp} {r : List Oper} {K : Kont} {env : Env} {s : St} {out : Option Out} (f : St → Option (AV × St)) (I : Env → St → Prop) (hI : I env s) (h : ∀ env s, I env s → opK P cfg call q all d r K env (f s) = out) :
    opK P cfg call q all d r K env (f s) = out := h env s hI
end Go.Ab

/- Shifts of numbers, however far. Conditions: numbers that are shown. -/
namespace Go.Ab
open Go.Proofs
set_option maxRecDepth 100000
set_option linter.unusedSimpArgs false

end Go.Ab

/- What the number statements ask besides. Conditions: limbs in range. -/
namespace Go.Ab
open Go.Proofs
set_option maxRecDepth 100000
set_option linter.unusedSimpArgs false

section
variable (n d : Nat) (hn : 100000 ≤ n)
include hn
theorem qNcmp {w w' : AV} {z z' : Int} (hw : IsN w z) (hw' : IsN w' z') : callQ (evalFn Tryd.prog cfg0 n (d+4)) 76 [w, w'] = some (.int .i64 (cmpI z z')) :=
  callQ_trees (by simp [hw.tree, hw'.tree]) (ncmp_eq n d hn hw hw')
theorem qOf64 (z : Int) (h : -9223372036854775808 ≤ z) (h' : z ≤ 9223372036854775807) : callQ (evalFn Tryd.prog cfg0 n (d+3)) 86 [.int .i64 z] = some (encZ z) :=
  callQ_trees rfl (of64_eq n d hn z h h')
end
theorem encZ_fold (z : Int) : (.agg [.bool (decide (z < 0)), encR z.natAbs] : AV) = encZ z := rfl
theorem cmp_sub (a b : Int) : cmpI (a - b) 0 = cmpI a b := by
  unfold cmpI
  (repeat' split) <;> omega
theorem cmp_flip (a b : Int) : cmpI b a = - cmpI a b := by
  unfold cmpI
  (repeat' split) <;> omega
theorem cmp_negs (a b : Int) : cmpI (-a) (-b) = - cmpI a b := by
  unfold cmpI
  (repeat' split) <;> omega
theorem cmp_zero (a : Int) : decide (cmpI a 0 < 0) = decide (a < 0) := by
  rw [decide_eq_decide]
  unfold cmpI
  (repeat' split) <;> omega
theorem cmp_range (a b : Int) : -1 ≤ cmpI a b ∧ cmpI a b ≤ 1 := by
  unfold cmpI
  (repeat' split) <;> omega
theorem un_neg_small (x : Int) (h : -1 ≤ x ∧ x ≤ 1) : unA .neg (.int .i64 x) = some (.int .i64 (-x)) := by
  have := i64_wrap (0 - x) (by omega) (by omega)
  simp only [unA, this]
  congr 2; omega
end Go.Ab

/- Terms as structs: their cells, read and written. No conditions. -/
namespace Go.Ab
open Go.Proofs
set_option maxRecDepth 100000
set_option linter.unusedSimpArgs false

theorem tkT : tkOf Tryd.prog 29 = .st := by kernel_rfl
theorem eszT : esz Tryd.prog 29 = some 6 := by kernel_rfl
theorem shT : shOf Tryd.prog 29 = some (true, 6) := by kernel_rfl
theorem zeroT : zeroOf Tryd.prog 29 = some [.int .i64 0, .bool false, .sl [] 0 .nil, .str [], .int .i64 0, .sl [] 0 .nil] := by kernel_rfl
theorem plT : placesA Tryd.prog 29 = some [(0, 1), (1, 2), (3, 1), (4, 1), (5, 1)] := by kernel_rfl
theorem fdT0 : fieldOf Tryd.prog 29 0 = some (3, 0) := by kernel_rfl
theorem fdT1 : fieldOf Tryd.prog 29 1 = some (27, 1) := by kernel_rfl
theorem fdT2 : fieldOf Tryd.prog 29 2 = some (9, 3) := by kernel_rfl
theorem fdT3 : fieldOf Tryd.prog 29 3 = some (3, 4) := by kernel_rfl
theorem fdT4 : fieldOf Tryd.prog 29 4 = some (22, 5) := by kernel_rfl
theorem eszTi : esz Tryd.prog 3 = some 1 := by kernel_rfl
theorem eszTs : esz Tryd.prog 9 = some 1 := by kernel_rfl
theorem eszTk : esz Tryd.prog 22 = some 1 := by kernel_rfl
theorem shTi : shOf Tryd.prog 3 = some (false, 1) := by kernel_rfl
theorem shTs : shOf Tryd.prog 9 = some (false, 1) := by kernel_rfl
theorem shTk : shOf Tryd.prog 22 = some (false, 1) := by kernel_rfl
theorem tkTk : tkOf Tryd.prog 22 = .sl 29 := by kernel_rfl
theorem faT_0 (s : St) (p k off : Nat) : fieldAddrA Tryd.prog 29 s (.ptr p k off) 0 = faE (s p) p k off := by
  simp only [fieldAddrA, fdT0, eszTi, live, cellsAt_E, faE, Nat.add_zero]
theorem faT_1 (s : St) (p k off : Nat) : fieldAddrA Tryd.prog 29 s (.ptr p k off) 1 = faE (s p) p k (off + 1) := by
  simp only [fieldAddrA, fdT1, esz24, live, cellsAt_E, faE]
theorem faT_2 (s : St) (p k off : Nat) : fieldAddrA Tryd.prog 29 s (.ptr p k off) 2 = faE (s p) p k (off + 3) := by
  simp only [fieldAddrA, fdT2, eszTs, live, cellsAt_E, faE]
theorem faT_3 (s : St) (p k off : Nat) : fieldAddrA Tryd.prog 29 s (.ptr p k off) 3 = faE (s p) p k (off + 4) := by
  simp only [fieldAddrA, fdT3, eszTi, live, cellsAt_E, faE]
theorem faT_4 (s : St) (p k off : Nat) : fieldAddrA Tryd.prog 29 s (.ptr p k off) 4 = faE (s p) p k (off + 5) := by
  simp only [fieldAddrA, fdT4, eszTk, live, cellsAt_E, faE]
section
variable (t k : Nat) (a b c d e f : AV)
theorem ldT_a : ldE Tryd.prog 29 ⟨t, .buf [a, b, c, d, e, f]⟩ k 0 = if t = k then some (.agg [a, b, c, d, e, f]) else none := by
  rw [ldE, cellsE_buf]
  by_cases h : t = k
  · simp [h, partA, shT]
  · simp [h]
theorem ldT_0 : ldE Tryd.prog 3 ⟨t, .buf [a, b, c, d, e, f]⟩ k 0 = if t = k then some a else none := by
  rw [ldE, cellsE_buf]
  by_cases h : t = k
  · simp [h, partA, shTi]
  · simp [h]
theorem ldT_1 : ldE Tryd.prog 27 ⟨t, .buf [a, b, c, d, e, f]⟩ k 1 = if t = k then some (.agg [b, c]) else none := by
  rw [ldE, cellsE_buf]
  by_cases h : t = k
  · simp [h, partA, sh24]
  · simp [h]
theorem ldT_2 : ldE Tryd.prog 9 ⟨t, .buf [a, b, c, d, e, f]⟩ k 3 = if t = k then some d else none := by
  rw [ldE, cellsE_buf]
  by_cases h : t = k
  · simp [h, partA, shTs]
  · simp [h]
theorem ldT_3 : ldE Tryd.prog 3 ⟨t, .buf [a, b, c, d, e, f]⟩ k 4 = if t = k then some e else none := by
  rw [ldE, cellsE_buf]
  by_cases h : t = k
  · simp [h, partA, shTi]
  · simp [h]
theorem ldT_4 : ldE Tryd.prog 22 ⟨t, .buf [a, b, c, d, e, f]⟩ k 5 = if t = k then some f else none := by
  rw [ldE, cellsE_buf]
  by_cases h : t = k
  · simp [h, partA, shTk]
  · simp [h]
end
/-- A struct put over another one. -/
def stT (e : Ent) (p k : Nat) (s : St) (ys : List AV) : Option St :=
  match e with | ⟨t', .buf xs⟩ => if t' = k then (if ys.length ≤ xs.length then some (upd s p ⟨t', .buf (splice xs 0 ys)⟩) else none) else none | _ => none
theorem st_T (s : St) (p k : Nat) (a b c d e f : AV) : storeA Tryd.prog 29 s (.ptr p k 0) (.agg [a, b, c, d, e, f]) = stT (s p) p k s [a, b, c, d, e, f] := by
  simp only [storeA, settle, Option.bind_some, stT]
  cases h : s p with
  | mk t c => cases c <;> simp [eszT]
theorem stT_buf (t k p : Nat) (s : St) (a b c d e f a' b' c' d' e' f' : AV) : stT ⟨t, .buf [a', b', c', d', e', f']⟩ p k s [a, b, c, d, e, f] = if t = k then some (upd s p ⟨t, .buf [a, b, c, d, e, f]⟩) else none := by
  simp [stT, splice]
/-! ### Terms put together -/
theorem bdT_ : buildA Tryd.prog 29 [] = some (.agg [.int .i64 0, .bool false, .sl [] 0 .nil, .str [], .int .i64 0, .sl [] 0 .nil]) := by
  simp only [buildA, zeroT, tkT, plT, Option.bind_some, fillA]; rfl
theorem bdT_0 (k : Int) : buildA Tryd.prog 29 [(0, .int .i64 k)] = some (.agg [.int .i64 k, .bool false, .sl [] 0 .nil, .str [], .int .i64 0, .sl [] 0 .nil]) := by
  simp only [buildA, zeroT, tkT, plT, Option.bind_some]; rfl
theorem bdT_1 (k : Int) (b : Bool) (g : Gk) (l : List Nat) : buildA Tryd.prog 29 [(0, .int .i64 k), (1, .agg [.bool b, encL g l])] = some (.agg [.int .i64 k, .bool b, encL g l, .str [], .int .i64 0, .sl [] 0 .nil]) := by
  simp only [buildA, zeroT, tkT, plT, Option.bind_some]; rfl
theorem bdT_2 (k : Int) (s : List UInt8) : buildA Tryd.prog 29 [(0, .int .i64 k), (2, .str s)] = some (.agg [.int .i64 k, .bool false, .sl [] 0 .nil, .str s, .int .i64 0, .sl [] 0 .nil]) := by
  simp only [buildA, zeroT, tkT, plT, Option.bind_some]; rfl
theorem bdT_3 (k n : Int) : buildA Tryd.prog 29 [(0, .int .i64 k), (3, .int .i64 n)] = some (.agg [.int .i64 k, .bool false, .sl [] 0 .nil, .str [], .int .i64 n, .sl [] 0 .nil]) := by
  simp only [buildA, zeroT, tkT, plT, Option.bind_some]; rfl
theorem bdT_4 (k : Int) (xs : List AV) (m : Nat) (g : Gk) : buildA Tryd.prog 29 [(0, .int .i64 k), (4, .sl xs m (gr g))] = some (.agg [.int .i64 k, .bool false, .sl [] 0 .nil, .str [], .int .i64 0, .sl xs m (gr g)]) := by
  simp only [buildA, zeroT, tkT, plT, Option.bind_some]
  cases g <;> rfl
theorem lenTk (s : St) (xs : List AV) (m : Nat) (g : Grip) : lenA Tryd.prog 22 s (.sl xs m g) = some (.int .i64 (m : Int)) := by simp only [lenA, tkTk]
end Go.Ab

/- The term statements' own example, by the kernel's own reckoning. No conditions. -/
namespace Go.Ab
open Go.Proofs
def isOkT : Option Out → Bool
  | some (.tree (.bool true), []) => true
  | _ => false
theorem isOkT_eq {o : Option Out} (h : isOkT o = true) : o = some (.tree (.bool true), []) := by
  unfold isOkT at h
  split at h
  · rfl
  · cases h
end Go.Ab

/- Terms of each kind: compared, the same. Conditions: limbs in range. -/
namespace Go.Ab
open Go.Proofs
set_option maxRecDepth 100000
set_option linter.unusedSimpArgs false

def noK : AV := .sl [] 0 .nil
def nilC : List AV := [.int .i64 3, .bool false, .sl [] 0 .nil, .str [], .int .i64 0, .sl [] 0 .nil]
/-- A term of each kind. -/
def kT (b : Bool) (g : Gk) (l : List Nat) (s : List UInt8) : Nat → List AV
  | 0 => [.int .i64 1, .bool b, encL g l, .str [], .int .i64 0, .sl [] 0 .nil]
  | 1 => [.int .i64 2, .bool false, .sl [] 0 .nil, .str s, .int .i64 0, .sl [] 0 .nil]
  | 2 => [.int .i64 7, .bool false, .sl [] 0 .nil, .str [], .int .i64 3, .sl [] 0 .nil]
  | 3 => [.int .i64 5, .bool false, .sl [] 0 .nil, .str [], .int .i64 0, .sl [] 0 .nil]
  | 4 => [.int .i64 3, .bool false, .sl [] 0 .nil, .str [], .int .i64 0, .sl [] 0 .nil]
  | 5 => [.int .i64 4, .bool false, .sl [] 0 .nil, .str [], .int .i64 0, .sl [.int .i64 3, .bool false, .sl [] 0 .nil, .str [], .int .i64 0, .sl [] 0 .nil, .int .i64 3, .bool false, .sl [] 0 .nil, .str [], .int .i64 0, .sl [] 0 .nil] 2 .tight]
  | 6 => [.int .i64 6, .bool false, .sl [] 0 .nil, .str s, .int .i64 0, .sl [] 0 .nil]
  | 7 => [.int .i64 8, .bool false, .sl [] 0 .nil, .str s, .int .i64 0, .sl [] 0 .nil]
  | _ => [.int .i64 9, .bool false, .sl [] 0 .nil, .str [], .int .i64 7, .sl [] 0 .nil]
def cmpN (i k : Nat) : Int := if i < k then -1 else if k < i then 1 else 0
section
variable (b : Bool) (g : Gk) (l : List Nat) (s : List UInt8)
theorem cK_0_1 : evalFn Tryd.prog cfg0 100000 14 60 [.tree (.agg (kT b g l s 0)), .tree (.agg (kT b g l s 1))] = some (.tree (.int .i64 (-1)), [[], []]) := by kernel_rfl
theorem sK_0_1 : evalFn Tryd.prog cfg0 100000 14 72 [.tree (.agg (kT b g l s 0)), .tree (.agg (kT b g l s 1))] = some (.tree (.bool false), [[], []]) := by kernel_rfl
theorem cK_0_2 : evalFn Tryd.prog cfg0 100000 14 60 [.tree (.agg (kT b g l s 0)), .tree (.agg (kT b g l s 2))] = some (.tree (.int .i64 (-1)), [[], []]) := by kernel_rfl
theorem sK_0_2 : evalFn Tryd.prog cfg0 100000 14 72 [.tree (.agg (kT b g l s 0)), .tree (.agg (kT b g l s 2))] = some (.tree (.bool false), [[], []]) := by kernel_rfl
theorem cK_0_3 : evalFn Tryd.prog cfg0 100000 14 60 [.tree (.agg (kT b g l s 0)), .tree (.agg (kT b g l s 3))] = some (.tree (.int .i64 (-1)), [[], []]) := by kernel_rfl
theorem sK_0_3 : evalFn Tryd.prog cfg0 100000 14 72 [.tree (.agg (kT b g l s 0)), .tree (.agg (kT b g l s 3))] = some (.tree (.bool false), [[], []]) := by kernel_rfl
theorem cK_0_4 : evalFn Tryd.prog cfg0 100000 14 60 [.tree (.agg (kT b g l s 0)), .tree (.agg (kT b g l s 4))] = some (.tree (.int .i64 (-1)), [[], []]) := by kernel_rfl
theorem sK_0_4 : evalFn Tryd.prog cfg0 100000 14 72 [.tree (.agg (kT b g l s 0)), .tree (.agg (kT b g l s 4))] = some (.tree (.bool false), [[], []]) := by kernel_rfl
theorem cK_0_5 : evalFn Tryd.prog cfg0 100000 14 60 [.tree (.agg (kT b g l s 0)), .tree (.agg (kT b g l s 5))] = some (.tree (.int .i64 (-1)), [[], []]) := by kernel_rfl
theorem sK_0_5 : evalFn Tryd.prog cfg0 100000 14 72 [.tree (.agg (kT b g l s 0)), .tree (.agg (kT b g l s 5))] = some (.tree (.bool false), [[], []]) := by kernel_rfl
theorem cK_0_6 : evalFn Tryd.prog cfg0 100000 14 60 [.tree (.agg (kT b g l s 0)), .tree (.agg (kT b g l s 6))] = some (.tree (.int .i64 (-1)), [[], []]) := by kernel_rfl
theorem sK_0_6 : evalFn Tryd.prog cfg0 100000 14 72 [.tree (.agg (kT b g l s 0)), .tree (.agg (kT b g l s 6))] = some (.tree (.bool false), [[], []]) := by kernel_rfl
theorem cK_0_7 : evalFn Tryd.prog cfg0 100000 14 60 [.tree (.agg (kT b g l s 0)), .tree (.agg (kT b g l s 7))] = some (.tree (.int .i64 (-1)), [[], []]) := by kernel_rfl
theorem sK_0_7 : evalFn Tryd.prog cfg0 100000 14 72 [.tree (.agg (kT b g l s 0)), .tree (.agg (kT b g l s 7))] = some (.tree (.bool false), [[], []]) := by kernel_rfl
theorem cK_0_8 : evalFn Tryd.prog cfg0 100000 14 60 [.tree (.agg (kT b g l s 0)), .tree (.agg (kT b g l s 8))] = some (.tree (.int .i64 (-1)), [[], []]) := by kernel_rfl
theorem sK_0_8 : evalFn Tryd.prog cfg0 100000 14 72 [.tree (.agg (kT b g l s 0)), .tree (.agg (kT b g l s 8))] = some (.tree (.bool false), [[], []]) := by kernel_rfl
theorem cK_1_0 : evalFn Tryd.prog cfg0 100000 14 60 [.tree (.agg (kT b g l s 1)), .tree (.agg (kT b g l s 0))] = some (.tree (.int .i64 (1)), [[], []]) := by kernel_rfl
theorem sK_1_0 : evalFn Tryd.prog cfg0 100000 14 72 [.tree (.agg (kT b g l s 1)), .tree (.agg (kT b g l s 0))] = some (.tree (.bool false), [[], []]) := by kernel_rfl
theorem cK_1_2 : evalFn Tryd.prog cfg0 100000 14 60 [.tree (.agg (kT b g l s 1)), .tree (.agg (kT b g l s 2))] = some (.tree (.int .i64 (-1)), [[], []]) := by kernel_rfl
theorem sK_1_2 : evalFn Tryd.prog cfg0 100000 14 72 [.tree (.agg (kT b g l s 1)), .tree (.agg (kT b g l s 2))] = some (.tree (.bool false), [[], []]) := by kernel_rfl
theorem cK_1_3 : evalFn Tryd.prog cfg0 100000 14 60 [.tree (.agg (kT b g l s 1)), .tree (.agg (kT b g l s 3))] = some (.tree (.int .i64 (-1)), [[], []]) := by kernel_rfl
theorem sK_1_3 : evalFn Tryd.prog cfg0 100000 14 72 [.tree (.agg (kT b g l s 1)), .tree (.agg (kT b g l s 3))] = some (.tree (.bool false), [[], []]) := by kernel_rfl
theorem cK_1_4 : evalFn Tryd.prog cfg0 100000 14 60 [.tree (.agg (kT b g l s 1)), .tree (.agg (kT b g l s 4))] = some (.tree (.int .i64 (-1)), [[], []]) := by kernel_rfl
theorem sK_1_4 : evalFn Tryd.prog cfg0 100000 14 72 [.tree (.agg (kT b g l s 1)), .tree (.agg (kT b g l s 4))] = some (.tree (.bool false), [[], []]) := by kernel_rfl
theorem cK_1_5 : evalFn Tryd.prog cfg0 100000 14 60 [.tree (.agg (kT b g l s 1)), .tree (.agg (kT b g l s 5))] = some (.tree (.int .i64 (-1)), [[], []]) := by kernel_rfl
theorem sK_1_5 : evalFn Tryd.prog cfg0 100000 14 72 [.tree (.agg (kT b g l s 1)), .tree (.agg (kT b g l s 5))] = some (.tree (.bool false), [[], []]) := by kernel_rfl
theorem cK_1_6 : evalFn Tryd.prog cfg0 100000 14 60 [.tree (.agg (kT b g l s 1)), .tree (.agg (kT b g l s 6))] = some (.tree (.int .i64 (-1)), [[], []]) := by kernel_rfl
theorem sK_1_6 : evalFn Tryd.prog cfg0 100000 14 72 [.tree (.agg (kT b g l s 1)), .tree (.agg (kT b g l s 6))] = some (.tree (.bool false), [[], []]) := by kernel_rfl
theorem cK_1_7 : evalFn Tryd.prog cfg0 100000 14 60 [.tree (.agg (kT b g l s 1)), .tree (.agg (kT b g l s 7))] = some (.tree (.int .i64 (-1)), [[], []]) := by kernel_rfl
theorem sK_1_7 : evalFn Tryd.prog cfg0 100000 14 72 [.tree (.agg (kT b g l s 1)), .tree (.agg (kT b g l s 7))] = some (.tree (.bool false), [[], []]) := by kernel_rfl
theorem cK_1_8 : evalFn Tryd.prog cfg0 100000 14 60 [.tree (.agg (kT b g l s 1)), .tree (.agg (kT b g l s 8))] = some (.tree (.int .i64 (-1)), [[], []]) := by kernel_rfl
theorem sK_1_8 : evalFn Tryd.prog cfg0 100000 14 72 [.tree (.agg (kT b g l s 1)), .tree (.agg (kT b g l s 8))] = some (.tree (.bool false), [[], []]) := by kernel_rfl
theorem cK_2_0 : evalFn Tryd.prog cfg0 100000 14 60 [.tree (.agg (kT b g l s 2)), .tree (.agg (kT b g l s 0))] = some (.tree (.int .i64 (1)), [[], []]) := by kernel_rfl
theorem sK_2_0 : evalFn Tryd.prog cfg0 100000 14 72 [.tree (.agg (kT b g l s 2)), .tree (.agg (kT b g l s 0))] = some (.tree (.bool false), [[], []]) := by kernel_rfl
theorem cK_2_1 : evalFn Tryd.prog cfg0 100000 14 60 [.tree (.agg (kT b g l s 2)), .tree (.agg (kT b g l s 1))] = some (.tree (.int .i64 (1)), [[], []]) := by kernel_rfl
theorem sK_2_1 : evalFn Tryd.prog cfg0 100000 14 72 [.tree (.agg (kT b g l s 2)), .tree (.agg (kT b g l s 1))] = some (.tree (.bool false), [[], []]) := by kernel_rfl
theorem cK_2_2 : evalFn Tryd.prog cfg0 100000 14 60 [.tree (.agg (kT b g l s 2)), .tree (.agg (kT b g l s 2))] = some (.tree (.int .i64 (0)), [[], []]) := by kernel_rfl
theorem sK_2_2 : evalFn Tryd.prog cfg0 100000 14 72 [.tree (.agg (kT b g l s 2)), .tree (.agg (kT b g l s 2))] = some (.tree (.bool true), [[], []]) := by kernel_rfl
theorem cK_2_3 : evalFn Tryd.prog cfg0 100000 14 60 [.tree (.agg (kT b g l s 2)), .tree (.agg (kT b g l s 3))] = some (.tree (.int .i64 (-1)), [[], []]) := by kernel_rfl
theorem sK_2_3 : evalFn Tryd.prog cfg0 100000 14 72 [.tree (.agg (kT b g l s 2)), .tree (.agg (kT b g l s 3))] = some (.tree (.bool false), [[], []]) := by kernel_rfl
theorem cK_2_4 : evalFn Tryd.prog cfg0 100000 14 60 [.tree (.agg (kT b g l s 2)), .tree (.agg (kT b g l s 4))] = some (.tree (.int .i64 (-1)), [[], []]) := by kernel_rfl
theorem sK_2_4 : evalFn Tryd.prog cfg0 100000 14 72 [.tree (.agg (kT b g l s 2)), .tree (.agg (kT b g l s 4))] = some (.tree (.bool false), [[], []]) := by kernel_rfl
theorem cK_2_5 : evalFn Tryd.prog cfg0 100000 14 60 [.tree (.agg (kT b g l s 2)), .tree (.agg (kT b g l s 5))] = some (.tree (.int .i64 (-1)), [[], []]) := by kernel_rfl
theorem sK_2_5 : evalFn Tryd.prog cfg0 100000 14 72 [.tree (.agg (kT b g l s 2)), .tree (.agg (kT b g l s 5))] = some (.tree (.bool false), [[], []]) := by kernel_rfl
theorem cK_2_6 : evalFn Tryd.prog cfg0 100000 14 60 [.tree (.agg (kT b g l s 2)), .tree (.agg (kT b g l s 6))] = some (.tree (.int .i64 (-1)), [[], []]) := by kernel_rfl
theorem sK_2_6 : evalFn Tryd.prog cfg0 100000 14 72 [.tree (.agg (kT b g l s 2)), .tree (.agg (kT b g l s 6))] = some (.tree (.bool false), [[], []]) := by kernel_rfl
theorem cK_2_7 : evalFn Tryd.prog cfg0 100000 14 60 [.tree (.agg (kT b g l s 2)), .tree (.agg (kT b g l s 7))] = some (.tree (.int .i64 (-1)), [[], []]) := by kernel_rfl
theorem sK_2_7 : evalFn Tryd.prog cfg0 100000 14 72 [.tree (.agg (kT b g l s 2)), .tree (.agg (kT b g l s 7))] = some (.tree (.bool false), [[], []]) := by kernel_rfl
theorem cK_2_8 : evalFn Tryd.prog cfg0 100000 14 60 [.tree (.agg (kT b g l s 2)), .tree (.agg (kT b g l s 8))] = some (.tree (.int .i64 (-1)), [[], []]) := by kernel_rfl
theorem sK_2_8 : evalFn Tryd.prog cfg0 100000 14 72 [.tree (.agg (kT b g l s 2)), .tree (.agg (kT b g l s 8))] = some (.tree (.bool false), [[], []]) := by kernel_rfl
theorem cK_3_0 : evalFn Tryd.prog cfg0 100000 14 60 [.tree (.agg (kT b g l s 3)), .tree (.agg (kT b g l s 0))] = some (.tree (.int .i64 (1)), [[], []]) := by kernel_rfl
theorem sK_3_0 : evalFn Tryd.prog cfg0 100000 14 72 [.tree (.agg (kT b g l s 3)), .tree (.agg (kT b g l s 0))] = some (.tree (.bool false), [[], []]) := by kernel_rfl
theorem cK_3_1 : evalFn Tryd.prog cfg0 100000 14 60 [.tree (.agg (kT b g l s 3)), .tree (.agg (kT b g l s 1))] = some (.tree (.int .i64 (1)), [[], []]) := by kernel_rfl
theorem sK_3_1 : evalFn Tryd.prog cfg0 100000 14 72 [.tree (.agg (kT b g l s 3)), .tree (.agg (kT b g l s 1))] = some (.tree (.bool false), [[], []]) := by kernel_rfl
theorem cK_3_2 : evalFn Tryd.prog cfg0 100000 14 60 [.tree (.agg (kT b g l s 3)), .tree (.agg (kT b g l s 2))] = some (.tree (.int .i64 (1)), [[], []]) := by kernel_rfl
theorem sK_3_2 : evalFn Tryd.prog cfg0 100000 14 72 [.tree (.agg (kT b g l s 3)), .tree (.agg (kT b g l s 2))] = some (.tree (.bool false), [[], []]) := by kernel_rfl
theorem cK_3_3 : evalFn Tryd.prog cfg0 100000 14 60 [.tree (.agg (kT b g l s 3)), .tree (.agg (kT b g l s 3))] = some (.tree (.int .i64 (0)), [[], []]) := by kernel_rfl
theorem sK_3_3 : evalFn Tryd.prog cfg0 100000 14 72 [.tree (.agg (kT b g l s 3)), .tree (.agg (kT b g l s 3))] = some (.tree (.bool true), [[], []]) := by kernel_rfl
theorem cK_3_4 : evalFn Tryd.prog cfg0 100000 14 60 [.tree (.agg (kT b g l s 3)), .tree (.agg (kT b g l s 4))] = some (.tree (.int .i64 (-1)), [[], []]) := by kernel_rfl
theorem sK_3_4 : evalFn Tryd.prog cfg0 100000 14 72 [.tree (.agg (kT b g l s 3)), .tree (.agg (kT b g l s 4))] = some (.tree (.bool false), [[], []]) := by kernel_rfl
theorem cK_3_5 : evalFn Tryd.prog cfg0 100000 14 60 [.tree (.agg (kT b g l s 3)), .tree (.agg (kT b g l s 5))] = some (.tree (.int .i64 (-1)), [[], []]) := by kernel_rfl
theorem sK_3_5 : evalFn Tryd.prog cfg0 100000 14 72 [.tree (.agg (kT b g l s 3)), .tree (.agg (kT b g l s 5))] = some (.tree (.bool false), [[], []]) := by kernel_rfl
theorem cK_3_6 : evalFn Tryd.prog cfg0 100000 14 60 [.tree (.agg (kT b g l s 3)), .tree (.agg (kT b g l s 6))] = some (.tree (.int .i64 (-1)), [[], []]) := by kernel_rfl
theorem sK_3_6 : evalFn Tryd.prog cfg0 100000 14 72 [.tree (.agg (kT b g l s 3)), .tree (.agg (kT b g l s 6))] = some (.tree (.bool false), [[], []]) := by kernel_rfl
theorem cK_3_7 : evalFn Tryd.prog cfg0 100000 14 60 [.tree (.agg (kT b g l s 3)), .tree (.agg (kT b g l s 7))] = some (.tree (.int .i64 (-1)), [[], []]) := by kernel_rfl
theorem sK_3_7 : evalFn Tryd.prog cfg0 100000 14 72 [.tree (.agg (kT b g l s 3)), .tree (.agg (kT b g l s 7))] = some (.tree (.bool false), [[], []]) := by kernel_rfl
theorem cK_3_8 : evalFn Tryd.prog cfg0 100000 14 60 [.tree (.agg (kT b g l s 3)), .tree (.agg (kT b g l s 8))] = some (.tree (.int .i64 (-1)), [[], []]) := by kernel_rfl
theorem sK_3_8 : evalFn Tryd.prog cfg0 100000 14 72 [.tree (.agg (kT b g l s 3)), .tree (.agg (kT b g l s 8))] = some (.tree (.bool false), [[], []]) := by kernel_rfl
theorem cK_4_0 : evalFn Tryd.prog cfg0 100000 14 60 [.tree (.agg (kT b g l s 4)), .tree (.agg (kT b g l s 0))] = some (.tree (.int .i64 (1)), [[], []]) := by kernel_rfl
theorem sK_4_0 : evalFn Tryd.prog cfg0 100000 14 72 [.tree (.agg (kT b g l s 4)), .tree (.agg (kT b g l s 0))] = some (.tree (.bool false), [[], []]) := by kernel_rfl
theorem cK_4_1 : evalFn Tryd.prog cfg0 100000 14 60 [.tree (.agg (kT b g l s 4)), .tree (.agg (kT b g l s 1))] = some (.tree (.int .i64 (1)), [[], []]) := by kernel_rfl
theorem sK_4_1 : evalFn Tryd.prog cfg0 100000 14 72 [.tree (.agg (kT b g l s 4)), .tree (.agg (kT b g l s 1))] = some (.tree (.bool false), [[], []]) := by kernel_rfl
theorem cK_4_2 : evalFn Tryd.prog cfg0 100000 14 60 [.tree (.agg (kT b g l s 4)), .tree (.agg (kT b g l s 2))] = some (.tree (.int .i64 (1)), [[], []]) := by kernel_rfl
theorem sK_4_2 : evalFn Tryd.prog cfg0 100000 14 72 [.tree (.agg (kT b g l s 4)), .tree (.agg (kT b g l s 2))] = some (.tree (.bool false), [[], []]) := by kernel_rfl
theorem cK_4_3 : evalFn Tryd.prog cfg0 100000 14 60 [.tree (.agg (kT b g l s 4)), .tree (.agg (kT b g l s 3))] = some (.tree (.int .i64 (1)), [[], []]) := by kernel_rfl
theorem sK_4_3 : evalFn Tryd.prog cfg0 100000 14 72 [.tree (.agg (kT b g l s 4)), .tree (.agg (kT b g l s 3))] = some (.tree (.bool false), [[], []]) := by kernel_rfl
theorem cK_4_4 : evalFn Tryd.prog cfg0 100000 14 60 [.tree (.agg (kT b g l s 4)), .tree (.agg (kT b g l s 4))] = some (.tree (.int .i64 (0)), [[], []]) := by kernel_rfl
theorem sK_4_4 : evalFn Tryd.prog cfg0 100000 14 72 [.tree (.agg (kT b g l s 4)), .tree (.agg (kT b g l s 4))] = some (.tree (.bool true), [[], []]) := by kernel_rfl
theorem cK_4_5 : evalFn Tryd.prog cfg0 100000 14 60 [.tree (.agg (kT b g l s 4)), .tree (.agg (kT b g l s 5))] = some (.tree (.int .i64 (-1)), [[], []]) := by kernel_rfl
theorem sK_4_5 : evalFn Tryd.prog cfg0 100000 14 72 [.tree (.agg (kT b g l s 4)), .tree (.agg (kT b g l s 5))] = some (.tree (.bool false), [[], []]) := by kernel_rfl
theorem cK_4_6 : evalFn Tryd.prog cfg0 100000 14 60 [.tree (.agg (kT b g l s 4)), .tree (.agg (kT b g l s 6))] = some (.tree (.int .i64 (-1)), [[], []]) := by kernel_rfl
theorem sK_4_6 : evalFn Tryd.prog cfg0 100000 14 72 [.tree (.agg (kT b g l s 4)), .tree (.agg (kT b g l s 6))] = some (.tree (.bool false), [[], []]) := by kernel_rfl
theorem cK_4_7 : evalFn Tryd.prog cfg0 100000 14 60 [.tree (.agg (kT b g l s 4)), .tree (.agg (kT b g l s 7))] = some (.tree (.int .i64 (-1)), [[], []]) := by kernel_rfl
theorem sK_4_7 : evalFn Tryd.prog cfg0 100000 14 72 [.tree (.agg (kT b g l s 4)), .tree (.agg (kT b g l s 7))] = some (.tree (.bool false), [[], []]) := by kernel_rfl
theorem cK_4_8 : evalFn Tryd.prog cfg0 100000 14 60 [.tree (.agg (kT b g l s 4)), .tree (.agg (kT b g l s 8))] = some (.tree (.int .i64 (-1)), [[], []]) := by kernel_rfl
theorem sK_4_8 : evalFn Tryd.prog cfg0 100000 14 72 [.tree (.agg (kT b g l s 4)), .tree (.agg (kT b g l s 8))] = some (.tree (.bool false), [[], []]) := by kernel_rfl
theorem cK_5_0 : evalFn Tryd.prog cfg0 100000 14 60 [.tree (.agg (kT b g l s 5)), .tree (.agg (kT b g l s 0))] = some (.tree (.int .i64 (1)), [[], []]) := by kernel_rfl
theorem sK_5_0 : evalFn Tryd.prog cfg0 100000 14 72 [.tree (.agg (kT b g l s 5)), .tree (.agg (kT b g l s 0))] = some (.tree (.bool false), [[], []]) := by kernel_rfl
theorem cK_5_1 : evalFn Tryd.prog cfg0 100000 14 60 [.tree (.agg (kT b g l s 5)), .tree (.agg (kT b g l s 1))] = some (.tree (.int .i64 (1)), [[], []]) := by kernel_rfl
theorem sK_5_1 : evalFn Tryd.prog cfg0 100000 14 72 [.tree (.agg (kT b g l s 5)), .tree (.agg (kT b g l s 1))] = some (.tree (.bool false), [[], []]) := by kernel_rfl
theorem cK_5_2 : evalFn Tryd.prog cfg0 100000 14 60 [.tree (.agg (kT b g l s 5)), .tree (.agg (kT b g l s 2))] = some (.tree (.int .i64 (1)), [[], []]) := by kernel_rfl
theorem sK_5_2 : evalFn Tryd.prog cfg0 100000 14 72 [.tree (.agg (kT b g l s 5)), .tree (.agg (kT b g l s 2))] = some (.tree (.bool false), [[], []]) := by kernel_rfl
theorem cK_5_3 : evalFn Tryd.prog cfg0 100000 14 60 [.tree (.agg (kT b g l s 5)), .tree (.agg (kT b g l s 3))] = some (.tree (.int .i64 (1)), [[], []]) := by kernel_rfl
theorem sK_5_3 : evalFn Tryd.prog cfg0 100000 14 72 [.tree (.agg (kT b g l s 5)), .tree (.agg (kT b g l s 3))] = some (.tree (.bool false), [[], []]) := by kernel_rfl
theorem cK_5_4 : evalFn Tryd.prog cfg0 100000 14 60 [.tree (.agg (kT b g l s 5)), .tree (.agg (kT b g l s 4))] = some (.tree (.int .i64 (1)), [[], []]) := by kernel_rfl
theorem sK_5_4 : evalFn Tryd.prog cfg0 100000 14 72 [.tree (.agg (kT b g l s 5)), .tree (.agg (kT b g l s 4))] = some (.tree (.bool false), [[], []]) := by kernel_rfl
theorem cK_5_5 : evalFn Tryd.prog cfg0 100000 14 60 [.tree (.agg (kT b g l s 5)), .tree (.agg (kT b g l s 5))] = some (.tree (.int .i64 (0)), [[], []]) := by kernel_rfl
theorem sK_5_5 : evalFn Tryd.prog cfg0 100000 14 72 [.tree (.agg (kT b g l s 5)), .tree (.agg (kT b g l s 5))] = some (.tree (.bool true), [[], []]) := by kernel_rfl
theorem cK_5_6 : evalFn Tryd.prog cfg0 100000 14 60 [.tree (.agg (kT b g l s 5)), .tree (.agg (kT b g l s 6))] = some (.tree (.int .i64 (-1)), [[], []]) := by kernel_rfl
theorem sK_5_6 : evalFn Tryd.prog cfg0 100000 14 72 [.tree (.agg (kT b g l s 5)), .tree (.agg (kT b g l s 6))] = some (.tree (.bool false), [[], []]) := by kernel_rfl
theorem cK_5_7 : evalFn Tryd.prog cfg0 100000 14 60 [.tree (.agg (kT b g l s 5)), .tree (.agg (kT b g l s 7))] = some (.tree (.int .i64 (-1)), [[], []]) := by kernel_rfl
theorem sK_5_7 : evalFn Tryd.prog cfg0 100000 14 72 [.tree (.agg (kT b g l s 5)), .tree (.agg (kT b g l s 7))] = some (.tree (.bool false), [[], []]) := by kernel_rfl
theorem cK_5_8 : evalFn Tryd.prog cfg0 100000 14 60 [.tree (.agg (kT b g l s 5)), .tree (.agg (kT b g l s 8))] = some (.tree (.int .i64 (-1)), [[], []]) := by kernel_rfl
theorem sK_5_8 : evalFn Tryd.prog cfg0 100000 14 72 [.tree (.agg (kT b g l s 5)), .tree (.agg (kT b g l s 8))] = some (.tree (.bool false), [[], []]) := by kernel_rfl
theorem cK_6_0 : evalFn Tryd.prog cfg0 100000 14 60 [.tree (.agg (kT b g l s 6)), .tree (.agg (kT b g l s 0))] = some (.tree (.int .i64 (1)), [[], []]) := by kernel_rfl
theorem sK_6_0 : evalFn Tryd.prog cfg0 100000 14 72 [.tree (.agg (kT b g l s 6)), .tree (.agg (kT b g l s 0))] = some (.tree (.bool false), [[], []]) := by kernel_rfl
theorem cK_6_1 : evalFn Tryd.prog cfg0 100000 14 60 [.tree (.agg (kT b g l s 6)), .tree (.agg (kT b g l s 1))] = some (.tree (.int .i64 (1)), [[], []]) := by kernel_rfl
theorem sK_6_1 : evalFn Tryd.prog cfg0 100000 14 72 [.tree (.agg (kT b g l s 6)), .tree (.agg (kT b g l s 1))] = some (.tree (.bool false), [[], []]) := by kernel_rfl
theorem cK_6_2 : evalFn Tryd.prog cfg0 100000 14 60 [.tree (.agg (kT b g l s 6)), .tree (.agg (kT b g l s 2))] = some (.tree (.int .i64 (1)), [[], []]) := by kernel_rfl
theorem sK_6_2 : evalFn Tryd.prog cfg0 100000 14 72 [.tree (.agg (kT b g l s 6)), .tree (.agg (kT b g l s 2))] = some (.tree (.bool false), [[], []]) := by kernel_rfl
theorem cK_6_3 : evalFn Tryd.prog cfg0 100000 14 60 [.tree (.agg (kT b g l s 6)), .tree (.agg (kT b g l s 3))] = some (.tree (.int .i64 (1)), [[], []]) := by kernel_rfl
theorem sK_6_3 : evalFn Tryd.prog cfg0 100000 14 72 [.tree (.agg (kT b g l s 6)), .tree (.agg (kT b g l s 3))] = some (.tree (.bool false), [[], []]) := by kernel_rfl
theorem cK_6_4 : evalFn Tryd.prog cfg0 100000 14 60 [.tree (.agg (kT b g l s 6)), .tree (.agg (kT b g l s 4))] = some (.tree (.int .i64 (1)), [[], []]) := by kernel_rfl
theorem sK_6_4 : evalFn Tryd.prog cfg0 100000 14 72 [.tree (.agg (kT b g l s 6)), .tree (.agg (kT b g l s 4))] = some (.tree (.bool false), [[], []]) := by kernel_rfl
theorem cK_6_5 : evalFn Tryd.prog cfg0 100000 14 60 [.tree (.agg (kT b g l s 6)), .tree (.agg (kT b g l s 5))] = some (.tree (.int .i64 (1)), [[], []]) := by kernel_rfl
theorem sK_6_5 : evalFn Tryd.prog cfg0 100000 14 72 [.tree (.agg (kT b g l s 6)), .tree (.agg (kT b g l s 5))] = some (.tree (.bool false), [[], []]) := by kernel_rfl
theorem cK_6_7 : evalFn Tryd.prog cfg0 100000 14 60 [.tree (.agg (kT b g l s 6)), .tree (.agg (kT b g l s 7))] = some (.tree (.int .i64 (-1)), [[], []]) := by kernel_rfl
theorem sK_6_7 : evalFn Tryd.prog cfg0 100000 14 72 [.tree (.agg (kT b g l s 6)), .tree (.agg (kT b g l s 7))] = some (.tree (.bool false), [[], []]) := by kernel_rfl
theorem cK_6_8 : evalFn Tryd.prog cfg0 100000 14 60 [.tree (.agg (kT b g l s 6)), .tree (.agg (kT b g l s 8))] = some (.tree (.int .i64 (-1)), [[], []]) := by kernel_rfl
theorem sK_6_8 : evalFn Tryd.prog cfg0 100000 14 72 [.tree (.agg (kT b g l s 6)), .tree (.agg (kT b g l s 8))] = some (.tree (.bool false), [[], []]) := by kernel_rfl
theorem cK_7_0 : evalFn Tryd.prog cfg0 100000 14 60 [.tree (.agg (kT b g l s 7)), .tree (.agg (kT b g l s 0))] = some (.tree (.int .i64 (1)), [[], []]) := by kernel_rfl
theorem sK_7_0 : evalFn Tryd.prog cfg0 100000 14 72 [.tree (.agg (kT b g l s 7)), .tree (.agg (kT b g l s 0))] = some (.tree (.bool false), [[], []]) := by kernel_rfl
theorem cK_7_1 : evalFn Tryd.prog cfg0 100000 14 60 [.tree (.agg (kT b g l s 7)), .tree (.agg (kT b g l s 1))] = some (.tree (.int .i64 (1)), [[], []]) := by kernel_rfl
theorem sK_7_1 : evalFn Tryd.prog cfg0 100000 14 72 [.tree (.agg (kT b g l s 7)), .tree (.agg (kT b g l s 1))] = some (.tree (.bool false), [[], []]) := by kernel_rfl
theorem cK_7_2 : evalFn Tryd.prog cfg0 100000 14 60 [.tree (.agg (kT b g l s 7)), .tree (.agg (kT b g l s 2))] = some (.tree (.int .i64 (1)), [[], []]) := by kernel_rfl
theorem sK_7_2 : evalFn Tryd.prog cfg0 100000 14 72 [.tree (.agg (kT b g l s 7)), .tree (.agg (kT b g l s 2))] = some (.tree (.bool false), [[], []]) := by kernel_rfl
theorem cK_7_3 : evalFn Tryd.prog cfg0 100000 14 60 [.tree (.agg (kT b g l s 7)), .tree (.agg (kT b g l s 3))] = some (.tree (.int .i64 (1)), [[], []]) := by kernel_rfl
theorem sK_7_3 : evalFn Tryd.prog cfg0 100000 14 72 [.tree (.agg (kT b g l s 7)), .tree (.agg (kT b g l s 3))] = some (.tree (.bool false), [[], []]) := by kernel_rfl
theorem cK_7_4 : evalFn Tryd.prog cfg0 100000 14 60 [.tree (.agg (kT b g l s 7)), .tree (.agg (kT b g l s 4))] = some (.tree (.int .i64 (1)), [[], []]) := by kernel_rfl
theorem sK_7_4 : evalFn Tryd.prog cfg0 100000 14 72 [.tree (.agg (kT b g l s 7)), .tree (.agg (kT b g l s 4))] = some (.tree (.bool false), [[], []]) := by kernel_rfl
theorem cK_7_5 : evalFn Tryd.prog cfg0 100000 14 60 [.tree (.agg (kT b g l s 7)), .tree (.agg (kT b g l s 5))] = some (.tree (.int .i64 (1)), [[], []]) := by kernel_rfl
theorem sK_7_5 : evalFn Tryd.prog cfg0 100000 14 72 [.tree (.agg (kT b g l s 7)), .tree (.agg (kT b g l s 5))] = some (.tree (.bool false), [[], []]) := by kernel_rfl
theorem cK_7_6 : evalFn Tryd.prog cfg0 100000 14 60 [.tree (.agg (kT b g l s 7)), .tree (.agg (kT b g l s 6))] = some (.tree (.int .i64 (1)), [[], []]) := by kernel_rfl
theorem sK_7_6 : evalFn Tryd.prog cfg0 100000 14 72 [.tree (.agg (kT b g l s 7)), .tree (.agg (kT b g l s 6))] = some (.tree (.bool false), [[], []]) := by kernel_rfl
theorem cK_7_8 : evalFn Tryd.prog cfg0 100000 14 60 [.tree (.agg (kT b g l s 7)), .tree (.agg (kT b g l s 8))] = some (.tree (.int .i64 (-1)), [[], []]) := by kernel_rfl
theorem sK_7_8 : evalFn Tryd.prog cfg0 100000 14 72 [.tree (.agg (kT b g l s 7)), .tree (.agg (kT b g l s 8))] = some (.tree (.bool false), [[], []]) := by kernel_rfl
theorem cK_8_0 : evalFn Tryd.prog cfg0 100000 14 60 [.tree (.agg (kT b g l s 8)), .tree (.agg (kT b g l s 0))] = some (.tree (.int .i64 (1)), [[], []]) := by kernel_rfl
theorem sK_8_0 : evalFn Tryd.prog cfg0 100000 14 72 [.tree (.agg (kT b g l s 8)), .tree (.agg (kT b g l s 0))] = some (.tree (.bool false), [[], []]) := by kernel_rfl
theorem cK_8_1 : evalFn Tryd.prog cfg0 100000 14 60 [.tree (.agg (kT b g l s 8)), .tree (.agg (kT b g l s 1))] = some (.tree (.int .i64 (1)), [[], []]) := by kernel_rfl
theorem sK_8_1 : evalFn Tryd.prog cfg0 100000 14 72 [.tree (.agg (kT b g l s 8)), .tree (.agg (kT b g l s 1))] = some (.tree (.bool false), [[], []]) := by kernel_rfl
theorem cK_8_2 : evalFn Tryd.prog cfg0 100000 14 60 [.tree (.agg (kT b g l s 8)), .tree (.agg (kT b g l s 2))] = some (.tree (.int .i64 (1)), [[], []]) := by kernel_rfl
theorem sK_8_2 : evalFn Tryd.prog cfg0 100000 14 72 [.tree (.agg (kT b g l s 8)), .tree (.agg (kT b g l s 2))] = some (.tree (.bool false), [[], []]) := by kernel_rfl
theorem cK_8_3 : evalFn Tryd.prog cfg0 100000 14 60 [.tree (.agg (kT b g l s 8)), .tree (.agg (kT b g l s 3))] = some (.tree (.int .i64 (1)), [[], []]) := by kernel_rfl
theorem sK_8_3 : evalFn Tryd.prog cfg0 100000 14 72 [.tree (.agg (kT b g l s 8)), .tree (.agg (kT b g l s 3))] = some (.tree (.bool false), [[], []]) := by kernel_rfl
theorem cK_8_4 : evalFn Tryd.prog cfg0 100000 14 60 [.tree (.agg (kT b g l s 8)), .tree (.agg (kT b g l s 4))] = some (.tree (.int .i64 (1)), [[], []]) := by kernel_rfl
theorem sK_8_4 : evalFn Tryd.prog cfg0 100000 14 72 [.tree (.agg (kT b g l s 8)), .tree (.agg (kT b g l s 4))] = some (.tree (.bool false), [[], []]) := by kernel_rfl
theorem cK_8_5 : evalFn Tryd.prog cfg0 100000 14 60 [.tree (.agg (kT b g l s 8)), .tree (.agg (kT b g l s 5))] = some (.tree (.int .i64 (1)), [[], []]) := by kernel_rfl
theorem sK_8_5 : evalFn Tryd.prog cfg0 100000 14 72 [.tree (.agg (kT b g l s 8)), .tree (.agg (kT b g l s 5))] = some (.tree (.bool false), [[], []]) := by kernel_rfl
theorem cK_8_6 : evalFn Tryd.prog cfg0 100000 14 60 [.tree (.agg (kT b g l s 8)), .tree (.agg (kT b g l s 6))] = some (.tree (.int .i64 (1)), [[], []]) := by kernel_rfl
theorem sK_8_6 : evalFn Tryd.prog cfg0 100000 14 72 [.tree (.agg (kT b g l s 8)), .tree (.agg (kT b g l s 6))] = some (.tree (.bool false), [[], []]) := by kernel_rfl
theorem cK_8_7 : evalFn Tryd.prog cfg0 100000 14 60 [.tree (.agg (kT b g l s 8)), .tree (.agg (kT b g l s 7))] = some (.tree (.int .i64 (1)), [[], []]) := by kernel_rfl
theorem sK_8_7 : evalFn Tryd.prog cfg0 100000 14 72 [.tree (.agg (kT b g l s 8)), .tree (.agg (kT b g l s 7))] = some (.tree (.bool false), [[], []]) := by kernel_rfl
theorem cK_8_8 : evalFn Tryd.prog cfg0 100000 14 60 [.tree (.agg (kT b g l s 8)), .tree (.agg (kT b g l s 8))] = some (.tree (.int .i64 (0)), [[], []]) := by kernel_rfl
theorem sK_8_8 : evalFn Tryd.prog cfg0 100000 14 72 [.tree (.agg (kT b g l s 8)), .tree (.agg (kT b g l s 8))] = some (.tree (.bool true), [[], []]) := by kernel_rfl
end
end Go.Ab
