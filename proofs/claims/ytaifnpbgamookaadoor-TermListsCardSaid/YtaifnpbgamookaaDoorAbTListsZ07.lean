/- Several texts put together: AbtT13, AbtT14, AbtT15. Conditions: as each part says. -/
import Derived.Test.YtaifnpbgamookaaDoorAbTListsZ06
/- term.Cmp upon terms that may be. Conditions: terms that may be; so many nodes at most. -/
namespace Go.Ab
open Go.Proofs
set_option maxRecDepth 100000
set_option linter.unusedSimpArgs false

mutual
/-- A term that is right by itself, everywhere; limbs in range. -/
def goodT : T → Prop
  | .mk k b lg l s n kg ks => Limbs l ∧ ownT (.mk k b lg l s n kg ks) = true ∧ goodK ks
def goodK : List T → Prop
  | [] => True
  | t :: r => goodT t ∧ goodK r
end
def nilT0 : T := .mk 3 false .n [] [] 0 .n []
def kindT : T → Int
  | .mk k _ _ _ _ _ _ _ => k
def numT : T → Int
  | .mk _ b _ l _ _ _ _ => numZ b l
def strT : T → List UInt8
  | .mk _ _ _ _ s _ _ _ => s
def kidsT : T → List T
  | .mk _ _ _ _ _ _ _ ks => ks
mutual
def cmpT : T → T → Int
  | .mk k b _ l s _ _ ks, u =>
    if k = 4 ∧ kindT u = 4 then cmpC ks (kidsT u)
    else or2 (three (rankI k) (rankI (kindT u))) (if k = 1 then cmpI (numZ b l) (numT u) else if k = 2 ∨ k = 6 then strC s (strT u) else if k = 5 then or2 (three ks.length (kidsT u).length) (cmpL ks (kidsT u)) else 0)
def cmpC : List T → List T → Int
  | [], _ => 0
  | x :: r, v => or2 (cmpT x (v.headD nilT0)) (cmpD r v.tail)
def cmpD : List T → List T → Int
  | [], _ => 0
  | x :: _, v => cmpT x (v.headD nilT0)
def cmpL : List T → List T → Int
  | [], [] => 0
  | [], _ :: _ => -1
  | _ :: _, [] => 1
  | x :: r, y :: q => or2 (cmpT x y) (cmpL r q)
end
theorem good_kind {k : Int} {b : Bool} {lg : Gk} {l : List Nat} {s : List UInt8} {n : Int} {kg : Gk} {ks : List T} (h : goodT (.mk k b lg l s n kg ks)) : 1 ≤ k ∧ k ≤ 6 := by
  simp only [goodT, ownT, Bool.and_eq_true, decide_eq_true_eq] at h
  exact h.2.1.1
theorem goodK_at : ∀ (ks : List T) (i : Nat) (t : T) (r : List T), ks.drop i = t :: r → goodK ks → goodT t
  | [], i, t, r, h, _ => by simp at h
  | a :: q, 0, t, r, h, hw => by simp only [List.drop_zero, List.cons.injEq] at h; obtain ⟨rfl, rfl⟩ := h; simp only [goodK] at hw; exact hw.1
  | a :: q, i + 1, t, r, h, hw => by simp only [goodK] at hw; exact goodK_at q i t r (by simpa using h) hw.2
theorem or2_0 {a b : Int} (h : a = 0) : or2 a b = b := if_pos h
theorem or2_n {a b : Int} (h : a ≠ 0) : or2 a b = a := if_neg h
set_option maxHeartbeats 8000000 in
theorem cmpF_eq (d : Nat) (us vs : List T) (ag bg : Gk) (ha : us.length ≤ 1000)
    (h : ∀ i j x y q r, us.drop i = x :: q → vs.drop j = y :: r → evalFn Tryd.prog cfg0 100000 d 22 [.tree (encT x), .tree (encT y)] = some (.tree (.int .i64 (cmpT x y)), [[], []])) :
    evalFn Tryd.prog cfg0 100000 (d+1) 66 [.tree (.sl (cellsK us) us.length (gr ag)), .tree (.sl (cellsK vs) vs.length (gr bg)), .tree (.fn 22 [])] = some (.tree (.int .i64 (cmpL us vs)), [[], [], []]) := by
  rw [evalFn_go _ Tryd.func66 (by unfold Tryd.f66; rfl) (by unfold Tryd.f66; decide) (Nat.le_of_ble_eq_true (by unfold Tryd.f66; rfl)) (by kernel_rfl)]
  simp only [zaa, zab, zac, zad, zae, zaf, zag, zah, zai, zaj, zak, zal, zam, zan, zao, zap, zaq, zar, zas, zat, zau, zav, zaw, zax, zay, zaz, zba, zbb, zbc, zbd, zbe, zbf, zbg, zbh, zbi, zbj, Nat.reduceBEq, Bool.or_self, Bool.or_false, Bool.or_true, Bool.and_true, Bool.and_false, Bool.true_and, Bool.false_and, Option.isNone_none, Option.isNone_some, Option.isSome_some, Option.isSome_none, zbk, zbl, zbm, zbn, zbo, zbp, zbq, zbr, zbs, zbt, zbu, zbv, zbw, zbx, zby, zbz, zca, zcb, zcc, zcd, zce, zcf, zcg, zch, zci, zcj, zck, zcl, zcm, zcn, zco, zcp, zcq, zcr, zcs, zct, zcu, zcv, zcw, zcx, zcy, zcz, zda, zdb, zdc, zdd, zde, zdf, Option.getD_some, Option.getD_none, zet, zeu, zev, zew, zex, zey, zez, zfa, Option.map_some, Option.map_none, Option.bind_some, List.map_cons, List.map_nil, List.cons_append, List.nil_append, ↓reduceIte, Nat.reduceEqDiff, Nat.reduceAdd, decide_true, decide_false, Bool.true_eq_false, Bool.false_eq_true, env0, List.getElem?_cons_zero, List.getElem?_cons_succ, zdg, zdh, zdi, zdj, zdk, zdl, zdm, zdn, ia22, ld31, zdo, zdp, lenTk, den_loop]
  refine loop_ends (X := Nat) (fun i env s => env 0 = .sl (cellsK us) us.length (gr ag) ∧ env 1 = .sl (cellsK vs) vs.length (gr bg) ∧ env 2 = .fn 22 [] ∧ env 11 = .sl (cellsK us) us.length (gr ag) ∧ env 12 = .int .i64 (us.length : Int) ∧ env 13 = .int .i64 (i : Int) ∧ i ≤ us.length ∧ i ≤ vs.length ∧ cmpL (us.drop i) (vs.drop i) = cmpL us vs) (fun i => us.length - i) (fun _ => (.tree (.int .i64 (cmpL us vs)), [[], [], []])) ?_ 100000 0 _ _ (by omega) ⟨(by first | (simp only [zfa, ↓reduceIte, Nat.reduceEqDiff, env0, List.getElem?_cons_zero, List.getElem?_cons_succ]; done) | (simp only [zfa, ↓reduceIte, Nat.reduceEqDiff, env0, List.getElem?_cons_zero, List.getElem?_cons_succ]; rfl)), (by first | (simp only [zfa, ↓reduceIte, Nat.reduceEqDiff, env0, List.getElem?_cons_zero, List.getElem?_cons_succ]; done) | (simp only [zfa, ↓reduceIte, Nat.reduceEqDiff, env0, List.getElem?_cons_zero, List.getElem?_cons_succ]; rfl)), (by first | (simp only [zfa, ↓reduceIte, Nat.reduceEqDiff, env0, List.getElem?_cons_zero, List.getElem?_cons_succ]; done) | (simp only [zfa, ↓reduceIte, Nat.reduceEqDiff, env0, List.getElem?_cons_zero, List.getElem?_cons_succ]; rfl)), (by first | (simp only [zfa, ↓reduceIte, Nat.reduceEqDiff]; done) | (simp only [zfa, ↓reduceIte, Nat.reduceEqDiff]; rfl)), (by first | (simp only [zfa, ↓reduceIte, Nat.reduceEqDiff]; done) | (simp only [zfa, ↓reduceIte, Nat.reduceEqDiff]; rfl)), (by first | (simp only [zfa, ↓reduceIte, Nat.reduceEqDiff]; done) | (simp only [zfa, ↓reduceIte, Nat.reduceEqDiff]; rfl)), Nat.zero_le _, Nat.zero_le _, rfl⟩
  intro k i hx ih env st ⟨e0, e1, e2, e11, e12, e13, hi, hi2, hc⟩
  cases hda : us.drop i with
  | nil =>
    have hil : i = us.length := by have := congrArg List.length hda; simp only [List.length_drop, List.length_nil] at this; omega
    have q1 : ¬ ((i : Int) < (us.length : Int)) := by omega
    rw [hda] at hc
    cases hdb : vs.drop i with
    | nil =>
      have hjl : i = vs.length := by have := congrArg List.length hdb; simp only [List.length_drop, List.length_nil] at this; omega
      rw [hdb] at hc
      simp only [cmpL] at hc
      rw [← hc]
      have q2 : ¬ ((us.length : Int) < (vs.length : Int)) := by omega
      simp only [zaa, zab, zac, zad, zae, zaf, zag, zah, zai, zaj, zak, zal, zam, zan, zao, zap, zaq, zar, zas, zat, zau, zav, zaw, zax, zay, zaz, zba, zbb, zbc, zbd, zbe, zbf, zbg, zbh, zbi, zbj, Nat.reduceBEq, Bool.or_self, Bool.or_false, Bool.or_true, Bool.and_true, Bool.and_false, Bool.true_and, Bool.false_and, Option.isNone_none, Option.isNone_some, Option.isSome_some, Option.isSome_none, zbk, zbl, zbm, zbn, zbo, zbp, zbq, zbr, zbs, zbt, zbu, zbv, zbw, zbx, zby, zbz, zca, zcb, zcc, zcd, zce, zcf, zcg, zch, zci, zcj, zck, zcl, zcm, zcn, zco, zcp, zcq, zcr, zcs, zct, zcu, zcv, zcw, zcx, zcy, zcz, zda, zdb, zdc, zdd, zde, zdf, Option.getD_some, Option.getD_none, zet, zeu, zev, zew, zex, zey, zez, zfa, Option.map_some, Option.map_none, Option.bind_some, List.map_cons, List.map_nil, List.cons_append, List.nil_append, ↓reduceIte, Nat.reduceEqDiff, Nat.reduceAdd, decide_true, decide_false, Bool.true_eq_false, Bool.false_eq_true, zdg, zdh, zdi, zdj, zdk, zdl, zdm, zdn, ia22, ld31, zdo, zdp, e0, e1, e2, e11, e12, e13, q1, q2, lenTk]
      exact finish_i _ _ _ _ _ _ _ (by first | (simp only [zfa, ↓reduceIte, Nat.reduceEqDiff]; done) | (simp only [zfa, ↓reduceIte, Nat.reduceEqDiff]; rfl)) rfl
    | cons y r =>
      have hjl : i < vs.length := by have := congrArg List.length hdb; simp only [List.length_drop, List.length_cons] at this; omega
      rw [hdb] at hc
      simp only [cmpL] at hc
      rw [← hc]
      have q2 : (us.length : Int) < (vs.length : Int) := by omega
      simp only [zaa, zab, zac, zad, zae, zaf, zag, zah, zai, zaj, zak, zal, zam, zan, zao, zap, zaq, zar, zas, zat, zau, zav, zaw, zax, zay, zaz, zba, zbb, zbc, zbd, zbe, zbf, zbg, zbh, zbi, zbj, Nat.reduceBEq, Bool.or_self, Bool.or_false, Bool.or_true, Bool.and_true, Bool.and_false, Bool.true_and, Bool.false_and, Option.isNone_none, Option.isNone_some, Option.isSome_some, Option.isSome_none, zbk, zbl, zbm, zbn, zbo, zbp, zbq, zbr, zbs, zbt, zbu, zbv, zbw, zbx, zby, zbz, zca, zcb, zcc, zcd, zce, zcf, zcg, zch, zci, zcj, zck, zcl, zcm, zcn, zco, zcp, zcq, zcr, zcs, zct, zcu, zcv, zcw, zcx, zcy, zcz, zda, zdb, zdc, zdd, zde, zdf, Option.getD_some, Option.getD_none, zet, zeu, zev, zew, zex, zey, zez, zfa, Option.map_some, Option.map_none, Option.bind_some, List.map_cons, List.map_nil, List.cons_append, List.nil_append, ↓reduceIte, Nat.reduceEqDiff, Nat.reduceAdd, decide_true, decide_false, Bool.true_eq_false, Bool.false_eq_true, zdg, zdh, zdi, zdj, zdk, zdl, zdm, zdn, ia22, ld31, zdo, zdp, e0, e1, e2, e11, e12, e13, q1, q2, lenTk]
      exact finish_i _ _ _ _ _ _ _ (by first | (simp only [zfa, ↓reduceIte, Nat.reduceEqDiff]; done) | (simp only [zfa, ↓reduceIte, Nat.reduceEqDiff]; rfl)) rfl
  | cons x q =>
    have hil : i < us.length := by have := congrArg List.length hda; simp only [List.length_drop, List.length_cons] at this; omega
    have q1 : (i : Int) < (us.length : Int) := by omega
    have ia := fun st => ia_K st us (gr ag) i hil
    rw [hda] at ia hc
    have ld := fun st => ld_K st x q
    simp only [encT] at ld
    cases hdb : vs.drop i with
    | nil =>
      have hjl : i = vs.length := by have := congrArg List.length hdb; simp only [List.length_drop, List.length_nil] at this; omega
      rw [hdb] at hc
      simp only [cmpL] at hc
      rw [← hc]
      have q2 : (i : Int) ≥ (vs.length : Int) := by omega
      simp only [zaa, zab, zac, zad, zae, zaf, zag, zah, zai, zaj, zak, zal, zam, zan, zao, zap, zaq, zar, zas, zat, zau, zav, zaw, zax, zay, zaz, zba, zbb, zbc, zbd, zbe, zbf, zbg, zbh, zbi, zbj, Nat.reduceBEq, Bool.or_self, Bool.or_false, Bool.or_true, Bool.and_true, Bool.and_false, Bool.true_and, Bool.false_and, Option.isNone_none, Option.isNone_some, Option.isSome_some, Option.isSome_none, zbk, zbl, zbm, zbn, zbo, zbp, zbq, zbr, zbs, zbt, zbu, zbv, zbw, zbx, zby, zbz, zca, zcb, zcc, zcd, zce, zcf, zcg, zch, zci, zcj, zck, zcl, zcm, zcn, zco, zcp, zcq, zcr, zcs, zct, zcu, zcv, zcw, zcx, zcy, zcz, zda, zdb, zdc, zdd, zde, zdf, Option.getD_some, Option.getD_none, zet, zeu, zev, zew, zex, zey, zez, zfa, Option.map_some, Option.map_none, Option.bind_some, List.map_cons, List.map_nil, List.cons_append, List.nil_append, ↓reduceIte, Nat.reduceEqDiff, Nat.reduceAdd, decide_true, decide_false, Bool.true_eq_false, Bool.false_eq_true, zdg, zdh, zdi, zdj, zdk, zdl, zdm, zdn, ia22, ld31, zdo, zdp, zdq, zdr, zds, zdt, zdu, zdv, zdw, zdx, zdy, zdz, zea, zeb, zec, fa_0, fa_1, zed, bd_0, bd_2, zee, fd_1, zef, Nat.zero_add, e0, e1, e2, e11, e12, e13, q1, q2, lenTk, ia, ld, zeroT, st_Tt, stT_6]
      exact finish_i _ _ _ _ _ _ _ (by first | (simp only [zfa, ↓reduceIte, Nat.reduceEqDiff]; done) | (simp only [zfa, ↓reduceIte, Nat.reduceEqDiff]; rfl)) rfl
    | cons y r =>
      have hjl : i < vs.length := by have := congrArg List.length hdb; simp only [List.length_drop, List.length_cons] at this; omega
      have q2 : ¬ ((i : Int) ≥ (vs.length : Int)) := by omega
      have ib := fun st => ia_K st vs (gr bg) i hjl
      rw [hdb] at ib hc
      have ldb := fun st => ld_K st y r
      simp only [encT] at ldb
      simp only [cmpL] at hc
      have cc := fun D st => callA_trees (cfg := cfg0) (d := D) (s := st) (f := 22) (vs := [encT x, encT y]) rfl (h i i x y q r hda hdb)
      simp only [encT] at cc
      have f5 := i_add Tryd.prog 3 (i : Int) 1 (by omega) (by omega)
      by_cases g : cmpT x y = 0
      · have g' : (cmpT x y != 0) = false := by rw [g]; rfl
        rw [or2_0 g] at hc
        simp only [zaa, zab, zac, zad, zae, zaf, zag, zah, zai, zaj, zak, zal, zam, zan, zao, zap, zaq, zar, zas, zat, zau, zav, zaw, zax, zay, zaz, zba, zbb, zbc, zbd, zbe, zbf, zbg, zbh, zbi, zbj, Nat.reduceBEq, Bool.or_self, Bool.or_false, Bool.or_true, Bool.and_true, Bool.and_false, Bool.true_and, Bool.false_and, Option.isNone_none, Option.isNone_some, Option.isSome_some, Option.isSome_none, zbk, zbl, zbm, zbn, zbo, zbp, zbq, zbr, zbs, zbt, zbu, zbv, zbw, zbx, zby, zbz, zca, zcb, zcc, zcd, zce, zcf, zcg, zch, zci, zcj, zck, zcl, zcm, zcn, zco, zcp, zcq, zcr, zcs, zct, zcu, zcv, zcw, zcx, zcy, zcz, zda, zdb, zdc, zdd, zde, zdf, Option.getD_some, Option.getD_none, zet, zeu, zev, zew, zex, zey, zez, zfa, Option.map_some, Option.map_none, Option.bind_some, List.map_cons, List.map_nil, List.cons_append, List.nil_append, ↓reduceIte, Nat.reduceEqDiff, Nat.reduceAdd, decide_true, decide_false, Bool.true_eq_false, Bool.false_eq_true, zdg, zdh, zdi, zdj, zdk, zdl, zdm, zdn, ia22, ld31, zdo, zdp, zdq, zdr, zds, zdt, zdu, zdv, zdw, zdx, zdy, zdz, zea, zeb, zec, fa_0, fa_1, zed, bd_0, bd_2, zee, fd_1, zef, Nat.zero_add, zem, zen, zeo, zep, zeq, zer, zes, e0, e1, e2, e11, e12, e13, q1, q2, lenTk, ia, ib, ld, ldb, zeroT, st_Tt, stT_6, ldT_u, cc, g', f5]
        exact ih (i + 1) _ _ (by omega) rfl ⟨(by first | (simp only [zfa, ↓reduceIte, Nat.reduceEqDiff, e0]; done) | (simp only [zfa, ↓reduceIte, Nat.reduceEqDiff, e0]; rfl)), (by first | (simp only [zfa, ↓reduceIte, Nat.reduceEqDiff, e1]; done) | (simp only [zfa, ↓reduceIte, Nat.reduceEqDiff, e1]; rfl)), (by first | (simp only [zfa, ↓reduceIte, Nat.reduceEqDiff, e2]; done) | (simp only [zfa, ↓reduceIte, Nat.reduceEqDiff, e2]; rfl)), (by first | (simp only [zfa, ↓reduceIte, Nat.reduceEqDiff, e11]; done) | (simp only [zfa, ↓reduceIte, Nat.reduceEqDiff, e11]; rfl)), (by first | (simp only [zfa, ↓reduceIte, Nat.reduceEqDiff, e12]; done) | (simp only [zfa, ↓reduceIte, Nat.reduceEqDiff, e12]; rfl)), (by first | (simp only [zfa, ↓reduceIte, Nat.reduceEqDiff]; done) | (simp only [zfa, ↓reduceIte, Nat.reduceEqDiff]; rfl)), by omega, by omega, by rw [drop_next hda, drop_next hdb]; exact hc⟩
      · have g' : (cmpT x y != 0) = true := by rw [bne_iff_ne]; exact g
        rw [or2_n g] at hc
        rw [← hc]
        simp only [zaa, zab, zac, zad, zae, zaf, zag, zah, zai, zaj, zak, zal, zam, zan, zao, zap, zaq, zar, zas, zat, zau, zav, zaw, zax, zay, zaz, zba, zbb, zbc, zbd, zbe, zbf, zbg, zbh, zbi, zbj, Nat.reduceBEq, Bool.or_self, Bool.or_false, Bool.or_true, Bool.and_true, Bool.and_false, Bool.true_and, Bool.false_and, Option.isNone_none, Option.isNone_some, Option.isSome_some, Option.isSome_none, zbk, zbl, zbm, zbn, zbo, zbp, zbq, zbr, zbs, zbt, zbu, zbv, zbw, zbx, zby, zbz, zca, zcb, zcc, zcd, zce, zcf, zcg, zch, zci, zcj, zck, zcl, zcm, zcn, zco, zcp, zcq, zcr, zcs, zct, zcu, zcv, zcw, zcx, zcy, zcz, zda, zdb, zdc, zdd, zde, zdf, Option.getD_some, Option.getD_none, zet, zeu, zev, zew, zex, zey, zez, zfa, Option.map_some, Option.map_none, Option.bind_some, List.map_cons, List.map_nil, List.cons_append, List.nil_append, ↓reduceIte, Nat.reduceEqDiff, Nat.reduceAdd, decide_true, decide_false, Bool.true_eq_false, Bool.false_eq_true, zdg, zdh, zdi, zdj, zdk, zdl, zdm, zdn, ia22, ld31, zdo, zdp, zdq, zdr, zds, zdt, zdu, zdv, zdw, zdx, zdy, zdz, zea, zeb, zec, fa_0, fa_1, zed, bd_0, bd_2, zee, fd_1, zef, Nat.zero_add, zem, zen, zeo, zep, zeq, zer, zes, e0, e1, e2, e11, e12, e13, q1, q2, lenTk, ia, ib, ld, ldb, zeroT, st_Tt, stT_6, ldT_u, cc, g', f5]
        exact finish_i _ _ _ _ _ _ _ (by first | (simp only [zfa, ↓reduceIte, Nat.reduceEqDiff]; done) | (simp only [zfa, ↓reduceIte, Nat.reduceEqDiff]; rfl)) rfl
theorem tuples_eq (d : Nat) (us vs : List T) (ag bg : Gk) (ha : us.length ≤ 1000)
    (h : ∀ i j x y q r, us.drop i = x :: q → vs.drop j = y :: r → evalFn Tryd.prog cfg0 100000 (d+1) 22 [.tree (encT x), .tree (encT y)] = some (.tree (.int .i64 (cmpT x y)), [[], []])) :
    evalFn Tryd.prog cfg0 100000 (d+3) 44 [.tree (.sl (cellsK us) us.length (gr ag)), .tree (.sl (cellsK vs) vs.length (gr bg))] = some (.tree (.int .i64 (or2 (three us.length vs.length) (cmpL us vs))), [[], []]) := by
  rw [evalFn_go _ Tryd.func44 (by unfold Tryd.f44; rfl) (by unfold Tryd.f44; decide) (Nat.le_of_ble_eq_true (by unfold Tryd.f44; rfl)) (by kernel_rfl)]
  have hf := cmpF_eq (d+1) us vs ag bg ha h
  have isk : ∀ g : Gk, ∀ ks : List T, isTree (.sl (cellsK ks) ks.length (gr g)) = true := by intro g ks; cases g <;> rfl
  have c1 := fun D st => callA_trees (cfg := cfg0) (d := D) (s := st) (f := 66) (vs := [.sl (cellsK us) us.length (gr ag), .sl (cellsK vs) vs.length (gr bg), .fn 22 []]) (by simp only [List.all_cons, isk, Bool.true_and]; rfl) hf
  have c2 := fun D st => callA_trees (cfg := cfg0) (d := D) (s := st) (f := 39) (vs := [.int .i64 (us.length : Int), .int .i64 (vs.length : Int)]) rfl (cmpCI_eq 100000 d us.length vs.length)
  have c3 := fun D st x y => callA_trees (cfg := cfg0) (d := D) (s := st) (f := 43) (vs := [.sl [.int .i64 x, .int .i64 y] 2 .tight]) rfl (orI_eq 100000 (d+1) (by decide) x y .tight)
  simp only [zaa, zab, zac, zad, zae, zaf, zag, zah, zai, zaj, zak, zal, zam, zan, zao, zap, zaq, zar, zas, zat, zau, zav, zaw, zax, zay, zaz, zba, zbb, zbc, zbd, zbe, zbf, zbg, zbh, zbi, zbj, Nat.reduceBEq, Bool.or_self, Bool.or_false, Bool.or_true, Bool.and_true, Bool.and_false, Bool.true_and, Bool.false_and, Option.isNone_none, Option.isNone_some, Option.isSome_some, Option.isSome_none, zbk, zbl, zbm, zbn, zbo, zbp, zbq, zbr, zbs, zbt, zbu, zbv, zbw, zbx, zby, zbz, zca, zcb, zcc, zcd, zce, zcf, zcg, zch, zci, zcj, zck, zcl, zcm, zcn, zco, zcp, zcq, zcr, zcs, zct, zcu, zcv, zcw, zcx, zcy, zcz, zda, zdb, zdc, zdd, zde, zdf, Option.getD_some, Option.getD_none, zet, zeu, zev, zew, zex, zey, zez, zfa, Option.map_some, Option.map_none, Option.bind_some, List.map_cons, List.map_nil, List.cons_append, List.nil_append, ↓reduceIte, Nat.reduceEqDiff, Nat.reduceAdd, decide_true, decide_false, Bool.true_eq_false, Bool.false_eq_true, env0, List.getElem?_cons_zero, List.getElem?_cons_succ, zdg, zdh, zdi, zdj, zdk, zdl, zdm, zdn, ia22, ld31, zdo, zdp, lenTk, c1, c2, c3, opA_two33, two33_int]
  exact finish_i _ _ _ _ _ _ _ (by first | (simp only [zfa, ↓reduceIte, Nat.reduceEqDiff]; done) | (simp only [zfa, ↓reduceIte, Nat.reduceEqDiff]; rfl)) rfl
end Go.Ab

/- term.Cmp upon terms that may be, walked. Conditions: terms that may be; so many nodes at most. -/
namespace Go.Ab
open Go.Proofs
set_option maxRecDepth 100000
set_option linter.unusedSimpArgs false

theorem good_own {k : Int} {b : Bool} {lg : Gk} {l : List Nat} {s : List UInt8} {n : Int} {kg : Gk} {ks : List T} (h : goodT (.mk k b lg l s n kg ks)) : Limbs l ∧ ownT (.mk k b lg l s n kg ks) = true ∧ goodK ks := by
  simp only [goodT] at h
  exact h
theorem good_kids {k : Int} {b : Bool} {lg : Gk} {l : List Nat} {s : List UInt8} {n : Int} {kg : Gk} {ks : List T} (h : goodT (.mk k b lg l s n kg ks)) (h4 : k ≠ 4) (h5 : k ≠ 5) : ks = [] := by
  have := (good_own h).2.1
  simp only [ownT, Bool.and_eq_true, decide_eq_true_eq, if_neg h4, if_neg h5] at this
  exact List.length_eq_zero_iff.mp this.2.1.2
theorem good_tup {b : Bool} {lg : Gk} {l : List Nat} {s : List UInt8} {n : Int} {kg : Gk} {ks : List T} (h : goodT (.mk 5 b lg l s n kg ks)) : ks.length ≤ 40 := by
  have := (good_own h).2.1
  simp only [ownT, Bool.and_eq_true, decide_eq_true_eq, Int.reduceEq, ↓reduceIte] at this
  exact this.2.1.2
theorem rank_inj {k k' : Int} (h : 1 ≤ k ∧ k ≤ 6) (h' : 1 ≤ k' ∧ k' ≤ 6) (e : three (rankI k) (rankI k') = 0) : k = k' := by
  have c : k = 1 ∨ k = 2 ∨ k = 3 ∨ k = 4 ∨ k = 5 ∨ k = 6 := by omega
  have c' : k' = 1 ∨ k' = 2 ∨ k' = 3 ∨ k' = 4 ∨ k' = 5 ∨ k' = 6 := by omega
  rcases c with rfl | rfl | rfl | rfl | rfl | rfl <;> rcases c' with rfl | rfl | rfl | rfl | rfl | rfl <;> first | rfl | (exact absurd e (by decide))
set_option maxHeartbeats 32000000 in
theorem tcmp_eq : ∀ (d D : Nat) (a0 b0 : T), htT a0 ≤ d → 3 * d + 6 ≤ D → nodT a0 < 100000 → goodT a0 → goodT b0 →
    evalFn Tryd.prog cfg0 100000 D 22 [.tree (encT a0), .tree (encT b0)] = some (.tree (.int .i64 (cmpT a0 b0)), [[], []])
  | 0, _, a0, b0, hd, _, hn, ha, hb => by obtain ⟨k, b, lg, l, s, m, kg, ks⟩ := a0; simp only [htT] at hd; omega
  | d + 1, D, a0, b0, hd, hD, hn, ha, hb => by
    obtain ⟨m, rfl⟩ : ∃ m, D = m + 9 := ⟨D - 9, by omega⟩
    have IH := fun D h a b h1 h2 h3 h4 => tcmp_eq d D a b h1 h h2 h3 h4
    rw [evalFn_go _ Tryd.func22 (by unfold Tryd.f22; rfl) (by unfold Tryd.f22; decide) (Nat.le_of_ble_eq_true (by unfold Tryd.f22; rfl)) (by kernel_rfl)]
    simp only [zaa, zab, zac, zad, zae, zaf, zag, zah, zai, zaj, zak, zal, zam, zan, zao, zap, zaq, zar, zas, zat, zau, zav, zaw, zax, zay, zaz, zba, zbb, zbc, zbd, zbe, zbf, zbg, zbh, zbi, zbj, Nat.reduceBEq, Bool.or_self, Bool.or_false, Bool.or_true, Bool.and_true, Bool.and_false, Bool.true_and, Bool.false_and, Option.isNone_none, Option.isNone_some, Option.isSome_some, Option.isSome_none, zbk, zbl, zbm, zbn, zbo, zbp, zbq, zbr, zbs, zbt, zbu, zbv, zbw, zbx, zby, zbz, zca, zcb, zcc, zcd, zce, zcf, zcg, zch, zci, zcj, zck, zcl, zcm, zcn, zco, zcp, zcq, zcr, zcs, zct, zcu, zcv, zcw, zcx, zcy, zcz, zda, zdb, zdc, zdd, zde, zdf, Option.getD_some, Option.getD_none, zet, zeu, zev, zew, zex, zey, zez, zfa, Option.map_some, Option.map_none, Option.bind_some, List.map_cons, List.map_nil, List.cons_append, List.nil_append, ↓reduceIte, Nat.reduceEqDiff, Nat.reduceAdd, decide_true, decide_false, Bool.true_eq_false, Bool.false_eq_true, env0, List.getElem?_cons_zero, List.getElem?_cons_succ, zdq, zdr, zds, zdt, zdu, zdv, zdw, zdx, zdy, zdz, zea, zeb, zec, fa_0, fa_1, zed, bd_0, bd_2, zee, fd_1, zef, Nat.zero_add, encT, den_loop]
    refine loop_ends (X := T × T) (fun x env s => env 2 = .ptr 2 1 0 ∧ env 3 = .ptr 3 1 0 ∧ s 2 = ⟨1, .buf (cellsT x.1)⟩ ∧ s 3 = ⟨1, .buf (cellsT x.2)⟩ ∧ htT x.1 ≤ d + 1 ∧ nodT x.1 < 100000 ∧ goodT x.1 ∧ goodT x.2) (fun x => nodT x.1) (fun x => (.tree (.int .i64 (cmpT x.1 x.2)), [[], []])) ?_ 100000 (a0, b0) _ _ hn ⟨(by first | (simp only [zfa, ↓reduceIte, Nat.reduceEqDiff]; done) | (simp only [zfa, ↓reduceIte, Nat.reduceEqDiff]; rfl)), (by first | (simp only [zfa, ↓reduceIte, Nat.reduceEqDiff]; done) | (simp only [zfa, ↓reduceIte, Nat.reduceEqDiff]; rfl)), (by first | (simp only [zfa, ↓reduceIte, Nat.reduceEqDiff]; done) | (simp only [zfa, ↓reduceIte, Nat.reduceEqDiff]; rfl)), (by first | (simp only [zfa, ↓reduceIte, Nat.reduceEqDiff]; done) | (simp only [zfa, ↓reduceIte, Nat.reduceEqDiff]; rfl)), hd, hn, ha, hb⟩
    rintro rd ⟨a, b⟩ hrd ih env st ⟨e2, e3, j2, j3, hht, hnod, hga, hgb⟩
    simp only at j2 j3 hht hnod hga hgb
    obtain ⟨k, n1, lg, l, s, i1, kg, ks⟩ := a
    obtain ⟨k', n2, lg', l', s', i2, kg', ks'⟩ := b
    have hk := good_kind hga
    have hk' := good_kind hgb
    have ga := good_own hga
    have gb := good_own hgb
    simp only [cellsT] at j2 j3
    by_cases h4 : k = 4 ∧ k' = 4
    · obtain ⟨rfl, rfl⟩ := h4
      obtain ⟨x, y, rfl⟩ := own_kids ga.2.1 rfl
      obtain ⟨x', y', rfl⟩ := own_kids gb.2.1 rfl
      have gx : goodT x ∧ goodT y := by have := ga.2.2; simp only [goodK, and_true] at this; exact this
      have gx' : goodT x' ∧ goodT y' := by have := gb.2.2; simp only [goodK, and_true] at this; exact this
      have hh : max (htT x) (htT y) + 1 ≤ d + 1 := by simp only [htT, htK] at hht; omega
      have hnn : nodT (.mk 4 n1 lg l s i1 kg [x, y]) = nodT x + nodT y + 1 := by simp only [nodT, nodK]; omega
      have hc : cmpT (.mk 4 n1 lg l s i1 kg [x, y]) (.mk 4 n2 lg' l' s' i2 kg' [x', y']) = or2 (cmpT x x') (cmpT y y') := by
        simp only [cmpT, kindT, kidsT, and_self, ↓reduceIte, cmpC, cmpD, List.headD_cons, List.tail_cons]
      have hq : ((4 : Int) == 4) = true := rfl
      have k1 := callQ_trees (f := 27) (vs := [encT (.mk 4 n1 lg l s i1 kg [x, y]), .int .i64 0]) rfl (kid_eq 100000 (m+7) 4 n1 lg l s i1 kg [x, y] 0 x [y] rfl)
      have k2 := callQ_trees (f := 27) (vs := [encT (.mk 4 n1 lg l s i1 kg [x, y]), .int .i64 1]) rfl (kid_eq 100000 (m+7) 4 n1 lg l s i1 kg [x, y] 1 y [] rfl)
      have k3 := callQ_trees (f := 27) (vs := [encT (.mk 4 n2 lg' l' s' i2 kg' [x', y']), .int .i64 0]) rfl (kid_eq 100000 (m+7) 4 n2 lg' l' s' i2 kg' [x', y'] 0 x' [y'] rfl)
      have k4 := callQ_trees (f := 27) (vs := [encT (.mk 4 n2 lg' l' s' i2 kg' [x', y']), .int .i64 1]) rfl (kid_eq 100000 (m+7) 4 n2 lg' l' s' i2 kg' [x', y'] 1 y' [] rfl)
      have k5 := callQ_trees (f := 22) (vs := [encT x, encT x']) rfl (IH (m+8) (by omega) x x' (by omega) (by omega) gx.1 gx'.1)
      simp only [encT, cellsT, List.length_cons, List.length_nil, Nat.zero_add, Nat.reduceAdd] at k1 k2 k3 k4 k5 j2 j3
      by_cases g : cmpT x x' = 0
      · have g' : (cmpT x x' != 0) = false := by rw [g]; rfl
        rw [or2_0 g] at hc
        simp only [zaa, zab, zac, zad, zae, zaf, zag, zah, zai, zaj, zak, zal, zam, zan, zao, zap, zaq, zar, zas, zat, zau, zav, zaw, zax, zay, zaz, zba, zbb, zbc, zbd, zbe, zbf, zbg, zbh, zbi, zbj, Nat.reduceBEq, Bool.or_self, Bool.or_false, Bool.or_true, Bool.and_true, Bool.and_false, Bool.true_and, Bool.false_and, Option.isNone_none, Option.isNone_some, Option.isSome_some, Option.isSome_none, zbk, zbl, zbm, zbn, zbo, zbp, zbq, zbr, zbs, zbt, zbu, zbv, zbw, zbx, zby, zbz, zca, zcb, zcc, zcd, zce, zcf, zcg, zch, zci, zcj, zck, zcl, zcm, zcn, zco, zcp, zcq, zcr, zcs, zct, zcu, zcv, zcw, zcx, zcy, zcz, zda, zdb, zdc, zdd, zde, zdf, Option.getD_some, Option.getD_none, zet, zeu, zev, zew, zex, zey, zez, zfa, Option.map_some, Option.map_none, Option.bind_some, List.map_cons, List.map_nil, List.cons_append, List.nil_append, ↓reduceIte, Nat.reduceEqDiff, Nat.reduceAdd, decide_true, decide_false, Bool.true_eq_false, Bool.false_eq_true, zdg, zdh, zdi, zdj, zdk, zdl, zdm, zdn, ia22, ld31, zdo, zdp, zdq, zdr, zds, zdt, zdu, zdv, zdw, zdx, zdy, zdz, zea, zeb, zec, fa_0, fa_1, zed, bd_0, bd_2, zee, fd_1, zef, Nat.zero_add, e2, e3, j2, j3, faT_0, ldT_0, ldT_a, i_eqlV, hq, k1, k2, k3, k4, k5, g', st_Tt, stT_6, stT_u]
        exact ih (y, y') _ _ (by simp only; omega) (by simp only [hc]) ⟨(by first | (simp only [zfa, ↓reduceIte, Nat.reduceEqDiff, e2]; done) | (simp only [zfa, ↓reduceIte, Nat.reduceEqDiff, e2]; rfl)), (by first | (simp only [zfa, ↓reduceIte, Nat.reduceEqDiff, e3]; done) | (simp only [zfa, ↓reduceIte, Nat.reduceEqDiff, e3]; rfl)), (by first | (simp only [zfa, ↓reduceIte, Nat.reduceEqDiff]; done) | (simp only [zfa, ↓reduceIte, Nat.reduceEqDiff]; rfl)), (by first | (simp only [zfa, ↓reduceIte, Nat.reduceEqDiff]; done) | (simp only [zfa, ↓reduceIte, Nat.reduceEqDiff]; rfl)), by simp only; omega, by simp only; omega, gx.2, gx'.2⟩
      · have g' : (cmpT x x' != 0) = true := by rw [bne_iff_ne]; exact g
        rw [or2_n g] at hc
        simp only [hc]
        simp only [zaa, zab, zac, zad, zae, zaf, zag, zah, zai, zaj, zak, zal, zam, zan, zao, zap, zaq, zar, zas, zat, zau, zav, zaw, zax, zay, zaz, zba, zbb, zbc, zbd, zbe, zbf, zbg, zbh, zbi, zbj, Nat.reduceBEq, Bool.or_self, Bool.or_false, Bool.or_true, Bool.and_true, Bool.and_false, Bool.true_and, Bool.false_and, Option.isNone_none, Option.isNone_some, Option.isSome_some, Option.isSome_none, zbk, zbl, zbm, zbn, zbo, zbp, zbq, zbr, zbs, zbt, zbu, zbv, zbw, zbx, zby, zbz, zca, zcb, zcc, zcd, zce, zcf, zcg, zch, zci, zcj, zck, zcl, zcm, zcn, zco, zcp, zcq, zcr, zcs, zct, zcu, zcv, zcw, zcx, zcy, zcz, zda, zdb, zdc, zdd, zde, zdf, Option.getD_some, Option.getD_none, zet, zeu, zev, zew, zex, zey, zez, zfa, Option.map_some, Option.map_none, Option.bind_some, List.map_cons, List.map_nil, List.cons_append, List.nil_append, ↓reduceIte, Nat.reduceEqDiff, Nat.reduceAdd, decide_true, decide_false, Bool.true_eq_false, Bool.false_eq_true, zdg, zdh, zdi, zdj, zdk, zdl, zdm, zdn, ia22, ld31, zdo, zdp, zdq, zdr, zds, zdt, zdu, zdv, zdw, zdx, zdy, zdz, zea, zeb, zec, fa_0, fa_1, zed, bd_0, bd_2, zee, fd_1, zef, Nat.zero_add, e2, e3, j2, j3, faT_0, ldT_0, ldT_a, i_eqlV, hq, k1, k2, k3, k4, k5, g', st_Tt, stT_6, stT_u]
        exact finish_i _ _ _ _ _ _ _ (by first | (simp only [zfa, ↓reduceIte, Nat.reduceEqDiff]; done) | (simp only [zfa, ↓reduceIte, Nat.reduceEqDiff]; rfl)) rfl
    · have hc : cmpT (.mk k n1 lg l s i1 kg ks) (.mk k' n2 lg' l' s' i2 kg' ks') = or2 (three (rankI k) (rankI k')) (if k = 1 then cmpI (numZ n1 l) (numZ n2 l') else if k = 2 ∨ k = 6 then strC s s' else if k = 5 then or2 (three ks.length ks'.length) (cmpL ks ks') else 0) := by
        simp only [cmpT, kindT, kidsT, strT, numT, h4, ↓reduceIte]
      have r1 := callQ_trees (f := 40) (vs := [.int .i64 k]) rfl (rank_eq (m+6) k hk)
      have r2 := callQ_trees (f := 40) (vs := [.int .i64 k']) rfl (rank_eq (m+6) k' hk')
      have r3 := callQ_trees (f := 39) (vs := [.int .i64 (rankI k), .int .i64 (rankI k')]) rfl (cmpCI_eq 100000 (m+6) (rankI k) (rankI k'))
      by_cases g : three (rankI k) (rankI k') = 0
      · have hkk := rank_inj hk hk' g
        subst hkk
        have k4 : k ≠ 4 := fun e => h4 ⟨e, e⟩
        have g' : (three (rankI k) (rankI k) != 0) = false := by rw [g]; rfl
        rw [or2_0 g] at hc
        simp only [hc]
        have b4 : (k == 4) = false := beq_eq_false_iff_ne.mpr k4
        have cc : k = 1 ∨ k = 2 ∨ k = 3 ∨ k = 5 ∨ k = 6 := by omega
        have c1 := fun D st => callA_trees (cfg := cfg0) (d := D) (s := st) (f := 41) (vs := [encA n1 lg l, encA n2 lg' l']) rfl (ncmp_eq 100000 (m+4) (by decide) (isN_A n1 lg l ga.1) (isN_A n2 lg' l' gb.1))
        have c2 := fun D st => callA_trees (cfg := cfg0) (d := D) (s := st) (f := 42) (vs := [.str s, .str s']) rfl (cmpCS_eq 100000 (m+6) s s')
        simp only [encA] at c1
        rcases cc with rfl | rfl | rfl | rfl | rfl
        · simp only [zaa, zab, zac, zad, zae, zaf, zag, zah, zai, zaj, zak, zal, zam, zan, zao, zap, zaq, zar, zas, zat, zau, zav, zaw, zax, zay, zaz, zba, zbb, zbc, zbd, zbe, zbf, zbg, zbh, zbi, zbj, Nat.reduceBEq, Bool.or_self, Bool.or_false, Bool.or_true, Bool.and_true, Bool.and_false, Bool.true_and, Bool.false_and, Option.isNone_none, Option.isNone_some, Option.isSome_some, Option.isSome_none, zbk, zbl, zbm, zbn, zbo, zbp, zbq, zbr, zbs, zbt, zbu, zbv, zbw, zbx, zby, zbz, zca, zcb, zcc, zcd, zce, zcf, zcg, zch, zci, zcj, zck, zcl, zcm, zcn, zco, zcp, zcq, zcr, zcs, zct, zcu, zcv, zcw, zcx, zcy, zcz, zda, zdb, zdc, zdd, zde, zdf, Option.getD_some, Option.getD_none, zet, zeu, zev, zew, zex, zey, zez, zfa, Option.map_some, Option.map_none, Option.bind_some, List.map_cons, List.map_nil, List.cons_append, List.nil_append, ↓reduceIte, Nat.reduceEqDiff, Nat.reduceAdd, decide_true, decide_false, Bool.true_eq_false, Bool.false_eq_true, zdg, zdh, zdi, zdj, zdk, zdl, zdm, zdn, ia22, ld31, zdo, zdp, zdq, zdr, zds, zdt, zdu, zdv, zdw, zdx, zdy, zdz, zea, zeb, zec, fa_0, fa_1, zed, bd_0, bd_2, zee, fd_1, zef, Nat.zero_add, e2, e3, j2, j3, faT_0, faT_1, faT_2, faT_4, ldT_0, ldT_1, ldT_2, ldT_4, i_eqlV, b4, Int.reduceBEq, Int.reduceEq, r1, r2, r3, g', c1]
          exact finish_i _ _ _ _ _ _ _ (by first | (simp only [zfa, ↓reduceIte, Nat.reduceEqDiff]; done) | (simp only [zfa, ↓reduceIte, Nat.reduceEqDiff]; rfl)) rfl
        · simp only [zaa, zab, zac, zad, zae, zaf, zag, zah, zai, zaj, zak, zal, zam, zan, zao, zap, zaq, zar, zas, zat, zau, zav, zaw, zax, zay, zaz, zba, zbb, zbc, zbd, zbe, zbf, zbg, zbh, zbi, zbj, Nat.reduceBEq, Bool.or_self, Bool.or_false, Bool.or_true, Bool.and_true, Bool.and_false, Bool.true_and, Bool.false_and, Option.isNone_none, Option.isNone_some, Option.isSome_some, Option.isSome_none, zbk, zbl, zbm, zbn, zbo, zbp, zbq, zbr, zbs, zbt, zbu, zbv, zbw, zbx, zby, zbz, zca, zcb, zcc, zcd, zce, zcf, zcg, zch, zci, zcj, zck, zcl, zcm, zcn, zco, zcp, zcq, zcr, zcs, zct, zcu, zcv, zcw, zcx, zcy, zcz, zda, zdb, zdc, zdd, zde, zdf, Option.getD_some, Option.getD_none, zet, zeu, zev, zew, zex, zey, zez, zfa, Option.map_some, Option.map_none, Option.bind_some, List.map_cons, List.map_nil, List.cons_append, List.nil_append, ↓reduceIte, Nat.reduceEqDiff, Nat.reduceAdd, decide_true, decide_false, Bool.true_eq_false, Bool.false_eq_true, zdg, zdh, zdi, zdj, zdk, zdl, zdm, zdn, ia22, ld31, zdo, zdp, zdq, zdr, zds, zdt, zdu, zdv, zdw, zdx, zdy, zdz, zea, zeb, zec, fa_0, fa_1, zed, bd_0, bd_2, zee, fd_1, zef, Nat.zero_add, e2, e3, j2, j3, faT_0, faT_1, faT_2, faT_4, ldT_0, ldT_1, ldT_2, ldT_4, i_eqlV, b4, Int.reduceBEq, Int.reduceEq, true_or, r1, r2, r3, g', c2]
          exact finish_i _ _ _ _ _ _ _ (by first | (simp only [zfa, ↓reduceIte, Nat.reduceEqDiff]; done) | (simp only [zfa, ↓reduceIte, Nat.reduceEqDiff]; rfl)) rfl
        · simp only [zaa, zab, zac, zad, zae, zaf, zag, zah, zai, zaj, zak, zal, zam, zan, zao, zap, zaq, zar, zas, zat, zau, zav, zaw, zax, zay, zaz, zba, zbb, zbc, zbd, zbe, zbf, zbg, zbh, zbi, zbj, Nat.reduceBEq, Bool.or_self, Bool.or_false, Bool.or_true, Bool.and_true, Bool.and_false, Bool.true_and, Bool.false_and, Option.isNone_none, Option.isNone_some, Option.isSome_some, Option.isSome_none, zbk, zbl, zbm, zbn, zbo, zbp, zbq, zbr, zbs, zbt, zbu, zbv, zbw, zbx, zby, zbz, zca, zcb, zcc, zcd, zce, zcf, zcg, zch, zci, zcj, zck, zcl, zcm, zcn, zco, zcp, zcq, zcr, zcs, zct, zcu, zcv, zcw, zcx, zcy, zcz, zda, zdb, zdc, zdd, zde, zdf, Option.getD_some, Option.getD_none, zet, zeu, zev, zew, zex, zey, zez, zfa, Option.map_some, Option.map_none, Option.bind_some, List.map_cons, List.map_nil, List.cons_append, List.nil_append, ↓reduceIte, Nat.reduceEqDiff, Nat.reduceAdd, decide_true, decide_false, Bool.true_eq_false, Bool.false_eq_true, zdg, zdh, zdi, zdj, zdk, zdl, zdm, zdn, ia22, ld31, zdo, zdp, zdq, zdr, zds, zdt, zdu, zdv, zdw, zdx, zdy, zdz, zea, zeb, zec, fa_0, fa_1, zed, bd_0, bd_2, zee, fd_1, zef, Nat.zero_add, e2, e3, j2, j3, faT_0, faT_1, faT_2, faT_4, ldT_0, ldT_1, ldT_2, ldT_4, i_eqlV, b4, Int.reduceBEq, Int.reduceEq, false_or, r1, r2, r3, g', c2]
          exact finish_i _ _ _ _ _ _ _ (by first | (simp only [zfa, ↓reduceIte, Nat.reduceEqDiff]; done) | (simp only [zfa, ↓reduceIte, Nat.reduceEqDiff]; rfl)) rfl
        · have hl1 := good_tup hga
          have hl2 := good_tup hgb
          have hhk : htK ks ≤ d := by simp only [htT] at hht; omega
          have hnk : nodK ks < 100000 := by simp only [nodT] at hnod; omega
          have ht := tuples_eq (m+5) ks ks' kg kg' (by omega) (fun i j x y q r h1 h2 => IH (m+6) (by omega) x y (by have := kids_ht ks i x q h1; omega) (by have := kids_nod ks i x q h1; omega) (goodK_at ks i x q h1 ga.2.2) (goodK_at ks' j y r h2 gb.2.2))
          have isk : ∀ g : Gk, ∀ ks : List T, isTree (.sl (cellsK ks) ks.length (gr g)) = true := by intro g ks; cases g <;> rfl
          have c3 := fun D st => callA_trees (cfg := cfg0) (d := D) (s := st) (f := 44) (vs := [.sl (cellsK ks) ks.length (gr kg), .sl (cellsK ks') ks'.length (gr kg')]) (by simp only [List.all_cons, isk, Bool.true_and]; rfl) ht
          simp only [zaa, zab, zac, zad, zae, zaf, zag, zah, zai, zaj, zak, zal, zam, zan, zao, zap, zaq, zar, zas, zat, zau, zav, zaw, zax, zay, zaz, zba, zbb, zbc, zbd, zbe, zbf, zbg, zbh, zbi, zbj, Nat.reduceBEq, Bool.or_self, Bool.or_false, Bool.or_true, Bool.and_true, Bool.and_false, Bool.true_and, Bool.false_and, Option.isNone_none, Option.isNone_some, Option.isSome_some, Option.isSome_none, zbk, zbl, zbm, zbn, zbo, zbp, zbq, zbr, zbs, zbt, zbu, zbv, zbw, zbx, zby, zbz, zca, zcb, zcc, zcd, zce, zcf, zcg, zch, zci, zcj, zck, zcl, zcm, zcn, zco, zcp, zcq, zcr, zcs, zct, zcu, zcv, zcw, zcx, zcy, zcz, zda, zdb, zdc, zdd, zde, zdf, Option.getD_some, Option.getD_none, zet, zeu, zev, zew, zex, zey, zez, zfa, Option.map_some, Option.map_none, Option.bind_some, List.map_cons, List.map_nil, List.cons_append, List.nil_append, ↓reduceIte, Nat.reduceEqDiff, Nat.reduceAdd, decide_true, decide_false, Bool.true_eq_false, Bool.false_eq_true, zdg, zdh, zdi, zdj, zdk, zdl, zdm, zdn, ia22, ld31, zdo, zdp, zdq, zdr, zds, zdt, zdu, zdv, zdw, zdx, zdy, zdz, zea, zeb, zec, fa_0, fa_1, zed, bd_0, bd_2, zee, fd_1, zef, Nat.zero_add, e2, e3, j2, j3, faT_0, faT_1, faT_2, faT_4, ldT_0, ldT_1, ldT_2, ldT_4, i_eqlV, b4, Int.reduceBEq, Int.reduceEq, false_or, r1, r2, r3, g', c3]
          exact finish_i _ _ _ _ _ _ _ (by first | (simp only [zfa, ↓reduceIte, Nat.reduceEqDiff]; done) | (simp only [zfa, ↓reduceIte, Nat.reduceEqDiff]; rfl)) rfl
        · simp only [zaa, zab, zac, zad, zae, zaf, zag, zah, zai, zaj, zak, zal, zam, zan, zao, zap, zaq, zar, zas, zat, zau, zav, zaw, zax, zay, zaz, zba, zbb, zbc, zbd, zbe, zbf, zbg, zbh, zbi, zbj, Nat.reduceBEq, Bool.or_self, Bool.or_false, Bool.or_true, Bool.and_true, Bool.and_false, Bool.true_and, Bool.false_and, Option.isNone_none, Option.isNone_some, Option.isSome_some, Option.isSome_none, zbk, zbl, zbm, zbn, zbo, zbp, zbq, zbr, zbs, zbt, zbu, zbv, zbw, zbx, zby, zbz, zca, zcb, zcc, zcd, zce, zcf, zcg, zch, zci, zcj, zck, zcl, zcm, zcn, zco, zcp, zcq, zcr, zcs, zct, zcu, zcv, zcw, zcx, zcy, zcz, zda, zdb, zdc, zdd, zde, zdf, Option.getD_some, Option.getD_none, zet, zeu, zev, zew, zex, zey, zez, zfa, Option.map_some, Option.map_none, Option.bind_some, List.map_cons, List.map_nil, List.cons_append, List.nil_append, ↓reduceIte, Nat.reduceEqDiff, Nat.reduceAdd, decide_true, decide_false, Bool.true_eq_false, Bool.false_eq_true, zdg, zdh, zdi, zdj, zdk, zdl, zdm, zdn, ia22, ld31, zdo, zdp, zdq, zdr, zds, zdt, zdu, zdv, zdw, zdx, zdy, zdz, zea, zeb, zec, fa_0, fa_1, zed, bd_0, bd_2, zee, fd_1, zef, Nat.zero_add, e2, e3, j2, j3, faT_0, faT_1, faT_2, faT_4, ldT_0, ldT_1, ldT_2, ldT_4, i_eqlV, b4, Int.reduceBEq, Int.reduceEq, or_true, r1, r2, r3, g', c2]
          exact finish_i _ _ _ _ _ _ _ (by first | (simp only [zfa, ↓reduceIte, Nat.reduceEqDiff]; done) | (simp only [zfa, ↓reduceIte, Nat.reduceEqDiff]; rfl)) rfl
      · have g' : (three (rankI k) (rankI k') != 0) = true := by rw [bne_iff_ne]; exact g
        rw [or2_n g] at hc
        simp only [hc]
        by_cases k4 : k = 4
        · have b4 : (k == 4) = true := by rw [k4]; rfl
          have b5 : (k' == 4) = false := beq_eq_false_iff_ne.mpr fun e => h4 ⟨k4, e⟩
          simp only [zaa, zab, zac, zad, zae, zaf, zag, zah, zai, zaj, zak, zal, zam, zan, zao, zap, zaq, zar, zas, zat, zau, zav, zaw, zax, zay, zaz, zba, zbb, zbc, zbd, zbe, zbf, zbg, zbh, zbi, zbj, Nat.reduceBEq, Bool.or_self, Bool.or_false, Bool.or_true, Bool.and_true, Bool.and_false, Bool.true_and, Bool.false_and, Option.isNone_none, Option.isNone_some, Option.isSome_some, Option.isSome_none, zbk, zbl, zbm, zbn, zbo, zbp, zbq, zbr, zbs, zbt, zbu, zbv, zbw, zbx, zby, zbz, zca, zcb, zcc, zcd, zce, zcf, zcg, zch, zci, zcj, zck, zcl, zcm, zcn, zco, zcp, zcq, zcr, zcs, zct, zcu, zcv, zcw, zcx, zcy, zcz, zda, zdb, zdc, zdd, zde, zdf, Option.getD_some, Option.getD_none, zet, zeu, zev, zew, zex, zey, zez, zfa, Option.map_some, Option.map_none, Option.bind_some, List.map_cons, List.map_nil, List.cons_append, List.nil_append, ↓reduceIte, Nat.reduceEqDiff, Nat.reduceAdd, decide_true, decide_false, Bool.true_eq_false, Bool.false_eq_true, zdg, zdh, zdi, zdj, zdk, zdl, zdm, zdn, ia22, ld31, zdo, zdp, zdq, zdr, zds, zdt, zdu, zdv, zdw, zdx, zdy, zdz, zea, zeb, zec, fa_0, fa_1, zed, bd_0, bd_2, zee, fd_1, zef, Nat.zero_add, e2, e3, j2, j3, faT_0, ldT_0, i_eqlV, b4, b5, r1, r2, r3, g']
          exact finish_i _ _ _ _ _ _ _ (by first | (simp only [zfa, ↓reduceIte, Nat.reduceEqDiff]; done) | (simp only [zfa, ↓reduceIte, Nat.reduceEqDiff]; rfl)) rfl
        · have b4 : (k == 4) = false := beq_eq_false_iff_ne.mpr k4
          simp only [zaa, zab, zac, zad, zae, zaf, zag, zah, zai, zaj, zak, zal, zam, zan, zao, zap, zaq, zar, zas, zat, zau, zav, zaw, zax, zay, zaz, zba, zbb, zbc, zbd, zbe, zbf, zbg, zbh, zbi, zbj, Nat.reduceBEq, Bool.or_self, Bool.or_false, Bool.or_true, Bool.and_true, Bool.and_false, Bool.true_and, Bool.false_and, Option.isNone_none, Option.isNone_some, Option.isSome_some, Option.isSome_none, zbk, zbl, zbm, zbn, zbo, zbp, zbq, zbr, zbs, zbt, zbu, zbv, zbw, zbx, zby, zbz, zca, zcb, zcc, zcd, zce, zcf, zcg, zch, zci, zcj, zck, zcl, zcm, zcn, zco, zcp, zcq, zcr, zcs, zct, zcu, zcv, zcw, zcx, zcy, zcz, zda, zdb, zdc, zdd, zde, zdf, Option.getD_some, Option.getD_none, zet, zeu, zev, zew, zex, zey, zez, zfa, Option.map_some, Option.map_none, Option.bind_some, List.map_cons, List.map_nil, List.cons_append, List.nil_append, ↓reduceIte, Nat.reduceEqDiff, Nat.reduceAdd, decide_true, decide_false, Bool.true_eq_false, Bool.false_eq_true, zdg, zdh, zdi, zdj, zdk, zdl, zdm, zdn, ia22, ld31, zdo, zdp, zdq, zdr, zds, zdt, zdu, zdv, zdw, zdx, zdy, zdz, zea, zeb, zec, fa_0, fa_1, zed, bd_0, bd_2, zee, fd_1, zef, Nat.zero_add, e2, e3, j2, j3, faT_0, ldT_0, i_eqlV, b4, r1, r2, r3, g']
          exact finish_i _ _ _ _ _ _ _ (by first | (simp only [zfa, ↓reduceIte, Nat.reduceEqDiff]; done) | (simp only [zfa, ↓reduceIte, Nat.reduceEqDiff]; rfl)) rfl
end Go.Ab

/- term.Same, walked. Conditions: so many limbs, nodes at most. -/
namespace Go.Ab
open Go.Proofs
set_option maxRecDepth 100000
set_option linter.unusedSimpArgs false

theorem eqLG_eq (n d : Nat) (b b' : Gk) (l m : List Nat) (hn : l.length < n) (hk : l.length ≤ 1000000) : evalFn Tryd.prog cfg0 n (d+1) 36 [.tree (encL b l), .tree (encL b' m)] = some (.tree (.bool (decide (l = m))), [[], []]) := by
  rw [evalFn_go _ Tryd.func36 (by unfold Tryd.f36; rfl) (by unfold Tryd.f36; decide) (Nat.le_of_ble_eq_true (by unfold Tryd.f36; rfl)) (by kernel_rfl)]
  by_cases hlm : l.length = m.length
  · have p1 : ((l.length : Int) != (m.length : Int)) = false := by rw [hlm]; exact bne_self_eq_false _
    simp only [zaa, zab, zac, zad, zae, zaf, zag, zah, zai, zaj, zak, zal, zam, zan, zao, zap, zaq, zar, zas, zat, zau, zav, zaw, zax, zay, zaz, zba, zbb, zbc, zbd, zbe, zbf, zbg, zbh, zbi, zbj, Nat.reduceBEq, Bool.or_self, Bool.or_false, Bool.or_true, Bool.and_true, Bool.and_false, Bool.true_and, Bool.false_and, Option.isNone_none, Option.isNone_some, Option.isSome_some, Option.isSome_none, zbk, zbl, zbm, zbn, zbo, zbp, zbq, zbr, zbs, zbt, zbu, zbv, zbw, zbx, zby, zbz, zca, zcb, zcc, zcd, zce, zcf, zcg, zch, zci, zcj, zck, zcl, zcm, zcn, zco, zcp, zcq, zcr, zcs, zct, zcu, zcv, zcw, zcx, zcy, zcz, zda, zdb, zdc, zdd, zde, zdf, Option.getD_some, Option.getD_none, zet, zeu, zev, zew, zex, zey, zez, zfa, Option.map_some, Option.map_none, Option.bind_some, List.map_cons, List.map_nil, List.cons_append, List.nil_append, ↓reduceIte, Nat.reduceEqDiff, Nat.reduceAdd, decide_true, decide_false, Bool.true_eq_false, Bool.false_eq_true, env0, List.getElem?_cons_zero, List.getElem?_cons_succ, zdg, zdh, zdi, zdj, zdk, zdl, zdm, zdn, ia22, ld31, zdo, zdp, p1, den_loop]
    refine loop_ends (X := Nat) (fun i env _ => env 0 = encL b l ∧ env 1 = encL b' m ∧ env 12 = .int .i64 (l.length : Int) ∧ env 13 = .int .i64 (i : Int) ∧ i ≤ l.length ∧ (l.drop i = m.drop i ↔ l = m)) (fun i => l.length - i) (fun _ => (.tree (.bool (decide (l = m))), [[], []])) ?_ n 0 _ _ (by omega) ⟨(by first | (simp only [zfa, ↓reduceIte, Nat.reduceEqDiff, env0, List.getElem?_cons_zero, List.getElem?_cons_succ]; done) | (simp only [zfa, ↓reduceIte, Nat.reduceEqDiff, env0, List.getElem?_cons_zero, List.getElem?_cons_succ]; rfl)), (by first | (simp only [zfa, ↓reduceIte, Nat.reduceEqDiff, env0, List.getElem?_cons_zero, List.getElem?_cons_succ]; done) | (simp only [zfa, ↓reduceIte, Nat.reduceEqDiff, env0, List.getElem?_cons_zero, List.getElem?_cons_succ]; rfl)), (by first | (simp only [zfa, ↓reduceIte, Nat.reduceEqDiff]; done) | (simp only [zfa, ↓reduceIte, Nat.reduceEqDiff]; rfl)), (by first | (simp only [zfa, ↓reduceIte, Nat.reduceEqDiff]; done) | (simp only [zfa, ↓reduceIte, Nat.reduceEqDiff]; rfl)), Nat.zero_le _, Iff.rfl⟩
    intro k i hx ih env s ⟨h0, h1, h2, h5, hi, hd⟩
    by_cases hp : i = l.length
    · have e : l = m := by
        rw [← hd, hp, List.drop_length, hlm, List.drop_length]
      rw [decide_eq_true e]
      have q1 : ¬ ((i : Int) < (l.length : Int)) := by omega
      simp only [zaa, zab, zac, zad, zae, zaf, zag, zah, zai, zaj, zak, zal, zam, zan, zao, zap, zaq, zar, zas, zat, zau, zav, zaw, zax, zay, zaz, zba, zbb, zbc, zbd, zbe, zbf, zbg, zbh, zbi, zbj, Nat.reduceBEq, Bool.or_self, Bool.or_false, Bool.or_true, Bool.and_true, Bool.and_false, Bool.true_and, Bool.false_and, Option.isNone_none, Option.isNone_some, Option.isSome_some, Option.isSome_none, zbk, zbl, zbm, zbn, zbo, zbp, zbq, zbr, zbs, zbt, zbu, zbv, zbw, zbx, zby, zbz, zca, zcb, zcc, zcd, zce, zcf, zcg, zch, zci, zcj, zck, zcl, zcm, zcn, zco, zcp, zcq, zcr, zcs, zct, zcu, zcv, zcw, zcx, zcy, zcz, zda, zdb, zdc, zdd, zde, zdf, Option.getD_some, Option.getD_none, zet, zeu, zev, zew, zex, zey, zez, zfa, Option.map_some, Option.map_none, Option.bind_some, List.map_cons, List.map_nil, List.cons_append, List.nil_append, ↓reduceIte, Nat.reduceEqDiff, Nat.reduceAdd, decide_true, decide_false, Bool.true_eq_false, Bool.false_eq_true, zdg, zdh, zdi, zdj, zdk, zdl, zdm, zdn, ia22, ld31, zdo, zdp, h0, h1, h2, h5, q1]
      exact finish_b _ _ _ _ _ _ _ (by first | (simp only [zfa, ↓reduceIte, Nat.reduceEqDiff]; done) | (simp only [zfa, ↓reduceIte, Nat.reduceEqDiff]; rfl)) rfl
    · have q1 : (i : Int) < (l.length : Int) := by omega
      have q2 : (0 : Int) ≤ (i : Int) := by omega
      have q3 : i < l.length := by omega
      have q4 : i < m.length := by omega
      have q5 : (i : Int) < (m.length : Int) := by omega
      have f4 := i_add Tryd.prog 3 (i : Int) 1 (by omega) (by omega)
      have dl : l.drop i = l.getD i 0 :: l.drop (i + 1) := by rw [List.getD_eq_getElem?_getD, List.getElem?_eq_getElem q3]; exact List.drop_eq_getElem_cons q3
      have dm : m.drop i = m.getD i 0 :: m.drop (i + 1) := by rw [List.getD_eq_getElem?_getD, List.getElem?_eq_getElem q4]; exact List.drop_eq_getElem_cons q4
      rw [dl, dm, List.cons.injEq] at hd
      by_cases g : l.getD i 0 = m.getD i 0
      · have p2 : ((l.getD i 0 : Int) != (m.getD i 0 : Int)) = false := by rw [g]; exact bne_self_eq_false _
        simp only [zaa, zab, zac, zad, zae, zaf, zag, zah, zai, zaj, zak, zal, zam, zan, zao, zap, zaq, zar, zas, zat, zau, zav, zaw, zax, zay, zaz, zba, zbb, zbc, zbd, zbe, zbf, zbg, zbh, zbi, zbj, Nat.reduceBEq, Bool.or_self, Bool.or_false, Bool.or_true, Bool.and_true, Bool.and_false, Bool.true_and, Bool.false_and, Option.isNone_none, Option.isNone_some, Option.isSome_some, Option.isSome_none, zbk, zbl, zbm, zbn, zbo, zbp, zbq, zbr, zbs, zbt, zbu, zbv, zbw, zbx, zby, zbz, zca, zcb, zcc, zcd, zce, zcf, zcg, zch, zci, zcj, zck, zcl, zcm, zcn, zco, zcp, zcq, zcr, zcs, zct, zcu, zcv, zcw, zcx, zcy, zcz, zda, zdb, zdc, zdd, zde, zdf, Option.getD_some, Option.getD_none, zet, zeu, zev, zew, zex, zey, zez, zfa, Option.map_some, Option.map_none, Option.bind_some, List.map_cons, List.map_nil, List.cons_append, List.nil_append, ↓reduceIte, Nat.reduceEqDiff, Nat.reduceAdd, decide_true, decide_false, Bool.true_eq_false, Bool.false_eq_true, zdg, zdh, zdi, zdj, zdk, zdl, zdm, zdn, ia22, ld31, zdo, zdp, h0, h1, h2, h5, q1, q2, q3, q4, q5, Int.toNat_natCast, p2, f4]
        exact ih (i + 1) _ _ (by omega) rfl ⟨(by first | (simp only [zfa, ↓reduceIte, Nat.reduceEqDiff, h0]; done) | (simp only [zfa, ↓reduceIte, Nat.reduceEqDiff, h0]; rfl)), (by first | (simp only [zfa, ↓reduceIte, Nat.reduceEqDiff, h1]; done) | (simp only [zfa, ↓reduceIte, Nat.reduceEqDiff, h1]; rfl)), (by first | (simp only [zfa, ↓reduceIte, Nat.reduceEqDiff, h2]; done) | (simp only [zfa, ↓reduceIte, Nat.reduceEqDiff, h2]; rfl)), (by first | (simp only [zfa, ↓reduceIte, Nat.reduceEqDiff]; done) | (simp only [zfa, ↓reduceIte, Nat.reduceEqDiff]; rfl)), by omega, by rw [← hd]; simp only [g, true_and]⟩
      · have p2 : ((l.getD i 0 : Int) != (m.getD i 0 : Int)) = true := by rw [bne_iff_ne]; omega
        have hne : ¬ l = m := fun e => g (hd.mpr e).1
        rw [decide_eq_false hne]
        simp only [zaa, zab, zac, zad, zae, zaf, zag, zah, zai, zaj, zak, zal, zam, zan, zao, zap, zaq, zar, zas, zat, zau, zav, zaw, zax, zay, zaz, zba, zbb, zbc, zbd, zbe, zbf, zbg, zbh, zbi, zbj, Nat.reduceBEq, Bool.or_self, Bool.or_false, Bool.or_true, Bool.and_true, Bool.and_false, Bool.true_and, Bool.false_and, Option.isNone_none, Option.isNone_some, Option.isSome_some, Option.isSome_none, zbk, zbl, zbm, zbn, zbo, zbp, zbq, zbr, zbs, zbt, zbu, zbv, zbw, zbx, zby, zbz, zca, zcb, zcc, zcd, zce, zcf, zcg, zch, zci, zcj, zck, zcl, zcm, zcn, zco, zcp, zcq, zcr, zcs, zct, zcu, zcv, zcw, zcx, zcy, zcz, zda, zdb, zdc, zdd, zde, zdf, Option.getD_some, Option.getD_none, zet, zeu, zev, zew, zex, zey, zez, zfa, Option.map_some, Option.map_none, Option.bind_some, List.map_cons, List.map_nil, List.cons_append, List.nil_append, ↓reduceIte, Nat.reduceEqDiff, Nat.reduceAdd, decide_true, decide_false, Bool.true_eq_false, Bool.false_eq_true, zdg, zdh, zdi, zdj, zdk, zdl, zdm, zdn, ia22, ld31, zdo, zdp, h0, h1, h2, h5, q1, q2, q3, q4, q5, Int.toNat_natCast, p2, f4]
        exact finish_b _ _ _ _ _ _ _ (by first | (simp only [zfa, ↓reduceIte, Nat.reduceEqDiff]; done) | (simp only [zfa, ↓reduceIte, Nat.reduceEqDiff]; rfl)) rfl
  · have p1 : ((l.length : Int) != (m.length : Int)) = true := by rw [bne_iff_ne]; omega
    rw [decide_eq_false (fun e => hlm (by rw [e]))]
    simp only [zaa, zab, zac, zad, zae, zaf, zag, zah, zai, zaj, zak, zal, zam, zan, zao, zap, zaq, zar, zas, zat, zau, zav, zaw, zax, zay, zaz, zba, zbb, zbc, zbd, zbe, zbf, zbg, zbh, zbi, zbj, Nat.reduceBEq, Bool.or_self, Bool.or_false, Bool.or_true, Bool.and_true, Bool.and_false, Bool.true_and, Bool.false_and, Option.isNone_none, Option.isNone_some, Option.isSome_some, Option.isSome_none, zbk, zbl, zbm, zbn, zbo, zbp, zbq, zbr, zbs, zbt, zbu, zbv, zbw, zbx, zby, zbz, zca, zcb, zcc, zcd, zce, zcf, zcg, zch, zci, zcj, zck, zcl, zcm, zcn, zco, zcp, zcq, zcr, zcs, zct, zcu, zcv, zcw, zcx, zcy, zcz, zda, zdb, zdc, zdd, zde, zdf, Option.getD_some, Option.getD_none, zet, zeu, zev, zew, zex, zey, zez, zfa, Option.map_some, Option.map_none, Option.bind_some, List.map_cons, List.map_nil, List.cons_append, List.nil_append, ↓reduceIte, Nat.reduceEqDiff, Nat.reduceAdd, decide_true, decide_false, Bool.true_eq_false, Bool.false_eq_true, env0, List.getElem?_cons_zero, List.getElem?_cons_succ, zdg, zdh, zdi, zdj, zdk, zdl, zdm, zdn, ia22, ld31, zdo, zdp, p1]
    exact finish_b _ _ _ _ _ _ _ (by first | (simp only [zfa, ↓reduceIte, Nat.reduceEqDiff]; done) | (simp only [zfa, ↓reduceIte, Nat.reduceEqDiff]; rfl)) rfl
def sgnT : T → Bool
  | .mk _ b _ _ _ _ _ _ => b
def nT : T → Int
  | .mk _ _ _ _ _ n _ _ => n
mutual
def sameT : T → T → Bool
  | .mk k b _ l s n _ ks, u => if k = kindT u then
      (if k = 1 then decide (b = sgnT u) && decide (l = limT u) else if k = 2 ∨ k = 6 then decide (s = strT u) else if k = 8 then decide (s = strT u) && decide (n = nT u) else if k = 9 then decide (n = nT u)
       else if k = 7 then decide (n = nT u) && sameK ks (kidsT u) else if k = 4 ∨ k = 5 then sameK ks (kidsT u) else true) else false
def sameK : List T → List T → Bool
  | [], [] => true
  | x :: r, y :: q => sameT x y && sameK r q
  | [], _ :: _ => false
  | _ :: _, [] => false
end
theorem sameK_len : ∀ (a b : List T), a.length ≠ b.length → sameK a b = false
  | [], [], h => absurd rfl h
  | [], _ :: _, _ => by simp only [sameK]
  | _ :: _, [], _ => by simp only [sameK]
  | x :: r, y :: q, h => by simp only [sameK]; rw [sameK_len r q (by simpa using h), Bool.and_false]
set_option maxHeartbeats 8000000 in
theorem sameF_eq (d : Nat) (us vs : List T) (ag bg : Gk) (ha : us.length < 100000)
    (h : ∀ i j x y q r, us.drop i = x :: q → vs.drop j = y :: r → evalFn Tryd.prog cfg0 100000 d 20 [.tree (encT x), .tree (encT y)] = some (.tree (.bool (sameT x y)), [[], []])) :
    evalFn Tryd.prog cfg0 100000 (d+1) 61 [.tree (.sl (cellsK us) us.length (gr ag)), .tree (.sl (cellsK vs) vs.length (gr bg)), .tree (.fn 20 [])] = some (.tree (.bool (sameK us vs)), [[], [], []]) := by
  rw [evalFn_go _ Tryd.func61 (by unfold Tryd.f61; rfl) (by unfold Tryd.f61; decide) (Nat.le_of_ble_eq_true (by unfold Tryd.f61; rfl)) (by kernel_rfl)]
  by_cases hl : us.length = vs.length
  case neg =>
    have p1 : ((us.length : Int) != (vs.length : Int)) = true := by rw [bne_iff_ne]; omega
    rw [sameK_len us vs hl]
    simp only [zaa, zab, zac, zad, zae, zaf, zag, zah, zai, zaj, zak, zal, zam, zan, zao, zap, zaq, zar, zas, zat, zau, zav, zaw, zax, zay, zaz, zba, zbb, zbc, zbd, zbe, zbf, zbg, zbh, zbi, zbj, Nat.reduceBEq, Bool.or_self, Bool.or_false, Bool.or_true, Bool.and_true, Bool.and_false, Bool.true_and, Bool.false_and, Option.isNone_none, Option.isNone_some, Option.isSome_some, Option.isSome_none, zbk, zbl, zbm, zbn, zbo, zbp, zbq, zbr, zbs, zbt, zbu, zbv, zbw, zbx, zby, zbz, zca, zcb, zcc, zcd, zce, zcf, zcg, zch, zci, zcj, zck, zcl, zcm, zcn, zco, zcp, zcq, zcr, zcs, zct, zcu, zcv, zcw, zcx, zcy, zcz, zda, zdb, zdc, zdd, zde, zdf, Option.getD_some, Option.getD_none, zet, zeu, zev, zew, zex, zey, zez, zfa, Option.map_some, Option.map_none, Option.bind_some, List.map_cons, List.map_nil, List.cons_append, List.nil_append, ↓reduceIte, Nat.reduceEqDiff, Nat.reduceAdd, decide_true, decide_false, Bool.true_eq_false, Bool.false_eq_true, env0, List.getElem?_cons_zero, List.getElem?_cons_succ, zdg, zdh, zdi, zdj, zdk, zdl, zdm, zdn, ia22, ld31, zdo, zdp, lenTk, p1]
    exact finish_b _ _ _ _ _ _ _ (by first | (simp only [zfa, ↓reduceIte, Nat.reduceEqDiff]; done) | (simp only [zfa, ↓reduceIte, Nat.reduceEqDiff]; rfl)) rfl
  have p1 : ((us.length : Int) != (vs.length : Int)) = false := by rw [hl]; exact bne_self_eq_false _
  simp only [zaa, zab, zac, zad, zae, zaf, zag, zah, zai, zaj, zak, zal, zam, zan, zao, zap, zaq, zar, zas, zat, zau, zav, zaw, zax, zay, zaz, zba, zbb, zbc, zbd, zbe, zbf, zbg, zbh, zbi, zbj, Nat.reduceBEq, Bool.or_self, Bool.or_false, Bool.or_true, Bool.and_true, Bool.and_false, Bool.true_and, Bool.false_and, Option.isNone_none, Option.isNone_some, Option.isSome_some, Option.isSome_none, zbk, zbl, zbm, zbn, zbo, zbp, zbq, zbr, zbs, zbt, zbu, zbv, zbw, zbx, zby, zbz, zca, zcb, zcc, zcd, zce, zcf, zcg, zch, zci, zcj, zck, zcl, zcm, zcn, zco, zcp, zcq, zcr, zcs, zct, zcu, zcv, zcw, zcx, zcy, zcz, zda, zdb, zdc, zdd, zde, zdf, Option.getD_some, Option.getD_none, zet, zeu, zev, zew, zex, zey, zez, zfa, Option.map_some, Option.map_none, Option.bind_some, List.map_cons, List.map_nil, List.cons_append, List.nil_append, ↓reduceIte, Nat.reduceEqDiff, Nat.reduceAdd, decide_true, decide_false, Bool.true_eq_false, Bool.false_eq_true, env0, List.getElem?_cons_zero, List.getElem?_cons_succ, zdg, zdh, zdi, zdj, zdk, zdl, zdm, zdn, ia22, ld31, zdo, zdp, lenTk, p1, den_loop]
  refine loop_ends (X := Nat) (fun i env s => env 0 = .sl (cellsK us) us.length (gr ag) ∧ env 1 = .sl (cellsK vs) vs.length (gr bg) ∧ env 2 = .fn 20 [] ∧ env 15 = .sl (cellsK us) us.length (gr ag) ∧ env 16 = .int .i64 (us.length : Int) ∧ env 17 = .int .i64 (i : Int) ∧ i ≤ us.length ∧ sameK (us.drop i) (vs.drop i) = sameK us vs) (fun i => us.length - i) (fun _ => (.tree (.bool (sameK us vs)), [[], [], []])) ?_ 100000 0 _ _ (by omega) ⟨(by first | (simp only [zfa, ↓reduceIte, Nat.reduceEqDiff, env0, List.getElem?_cons_zero, List.getElem?_cons_succ]; done) | (simp only [zfa, ↓reduceIte, Nat.reduceEqDiff, env0, List.getElem?_cons_zero, List.getElem?_cons_succ]; rfl)), (by first | (simp only [zfa, ↓reduceIte, Nat.reduceEqDiff, env0, List.getElem?_cons_zero, List.getElem?_cons_succ]; done) | (simp only [zfa, ↓reduceIte, Nat.reduceEqDiff, env0, List.getElem?_cons_zero, List.getElem?_cons_succ]; rfl)), (by first | (simp only [zfa, ↓reduceIte, Nat.reduceEqDiff, env0, List.getElem?_cons_zero, List.getElem?_cons_succ]; done) | (simp only [zfa, ↓reduceIte, Nat.reduceEqDiff, env0, List.getElem?_cons_zero, List.getElem?_cons_succ]; rfl)), (by first | (simp only [zfa, ↓reduceIte, Nat.reduceEqDiff]; done) | (simp only [zfa, ↓reduceIte, Nat.reduceEqDiff]; rfl)), (by first | (simp only [zfa, ↓reduceIte, Nat.reduceEqDiff]; done) | (simp only [zfa, ↓reduceIte, Nat.reduceEqDiff]; rfl)), (by first | (simp only [zfa, ↓reduceIte, Nat.reduceEqDiff]; done) | (simp only [zfa, ↓reduceIte, Nat.reduceEqDiff]; rfl)), Nat.zero_le _, rfl⟩
  intro k i hx ih env st ⟨e0, e1, e2, e11, e12, e13, hi, hc⟩
  cases hda : us.drop i with
  | nil =>
    have hil : i = us.length := by have := congrArg List.length hda; simp only [List.length_drop, List.length_nil] at this; omega
    have q1 : ¬ ((i : Int) < (us.length : Int)) := by omega
    have hdb : vs.drop i = [] := List.drop_eq_nil_of_le (by omega)
    rw [hda, hdb] at hc
    simp only [sameK] at hc
    rw [← hc]
    simp only [zaa, zab, zac, zad, zae, zaf, zag, zah, zai, zaj, zak, zal, zam, zan, zao, zap, zaq, zar, zas, zat, zau, zav, zaw, zax, zay, zaz, zba, zbb, zbc, zbd, zbe, zbf, zbg, zbh, zbi, zbj, Nat.reduceBEq, Bool.or_self, Bool.or_false, Bool.or_true, Bool.and_true, Bool.and_false, Bool.true_and, Bool.false_and, Option.isNone_none, Option.isNone_some, Option.isSome_some, Option.isSome_none, zbk, zbl, zbm, zbn, zbo, zbp, zbq, zbr, zbs, zbt, zbu, zbv, zbw, zbx, zby, zbz, zca, zcb, zcc, zcd, zce, zcf, zcg, zch, zci, zcj, zck, zcl, zcm, zcn, zco, zcp, zcq, zcr, zcs, zct, zcu, zcv, zcw, zcx, zcy, zcz, zda, zdb, zdc, zdd, zde, zdf, Option.getD_some, Option.getD_none, zet, zeu, zev, zew, zex, zey, zez, zfa, Option.map_some, Option.map_none, Option.bind_some, List.map_cons, List.map_nil, List.cons_append, List.nil_append, ↓reduceIte, Nat.reduceEqDiff, Nat.reduceAdd, decide_true, decide_false, Bool.true_eq_false, Bool.false_eq_true, zdg, zdh, zdi, zdj, zdk, zdl, zdm, zdn, ia22, ld31, zdo, zdp, e0, e1, e2, e11, e12, e13, q1]
    exact finish_b _ _ _ _ _ _ _ (by first | (simp only [zfa, ↓reduceIte, Nat.reduceEqDiff]; done) | (simp only [zfa, ↓reduceIte, Nat.reduceEqDiff]; rfl)) rfl
  | cons x q =>
    have hil : i < us.length := by have := congrArg List.length hda; simp only [List.length_drop, List.length_cons] at this; omega
    have hjl : i < vs.length := by omega
    have q1 : (i : Int) < (us.length : Int) := by omega
    have ia := fun st => ia_K st us (gr ag) i hil
    rw [hda] at ia hc
    have ld := fun st => ld_K st x q
    simp only [encT] at ld
    cases hdb : vs.drop i with
    | nil => have := congrArg List.length hdb; simp only [List.length_drop, List.length_nil] at this; omega
    | cons y r =>
      have ib := fun st => ia_K st vs (gr bg) i hjl
      rw [hdb] at ib hc
      have ldb := fun st => ld_K st y r
      simp only [encT] at ldb
      simp only [sameK] at hc
      have cc := fun D st => callA_trees (cfg := cfg0) (d := D) (s := st) (f := 20) (vs := [encT x, encT y]) rfl (h i i x y q r hda hdb)
      simp only [encT] at cc
      have f5 := i_add Tryd.prog 3 (i : Int) 1 (by omega) (by omega)
      cases g : sameT x y with
      | true =>
        rw [g, Bool.true_and] at hc
        rw [g] at cc
        simp only [zaa, zab, zac, zad, zae, zaf, zag, zah, zai, zaj, zak, zal, zam, zan, zao, zap, zaq, zar, zas, zat, zau, zav, zaw, zax, zay, zaz, zba, zbb, zbc, zbd, zbe, zbf, zbg, zbh, zbi, zbj, Nat.reduceBEq, Bool.or_self, Bool.or_false, Bool.or_true, Bool.and_true, Bool.and_false, Bool.true_and, Bool.false_and, Option.isNone_none, Option.isNone_some, Option.isSome_some, Option.isSome_none, zbk, zbl, zbm, zbn, zbo, zbp, zbq, zbr, zbs, zbt, zbu, zbv, zbw, zbx, zby, zbz, zca, zcb, zcc, zcd, zce, zcf, zcg, zch, zci, zcj, zck, zcl, zcm, zcn, zco, zcp, zcq, zcr, zcs, zct, zcu, zcv, zcw, zcx, zcy, zcz, zda, zdb, zdc, zdd, zde, zdf, Option.getD_some, Option.getD_none, zet, zeu, zev, zew, zex, zey, zez, zfa, Option.map_some, Option.map_none, Option.bind_some, List.map_cons, List.map_nil, List.cons_append, List.nil_append, ↓reduceIte, Nat.reduceEqDiff, Nat.reduceAdd, decide_true, decide_false, Bool.true_eq_false, Bool.false_eq_true, zdg, zdh, zdi, zdj, zdk, zdl, zdm, zdn, ia22, ld31, zdo, zdp, zdq, zdr, zds, zdt, zdu, zdv, zdw, zdx, zdy, zdz, zea, zeb, zec, fa_0, fa_1, zed, bd_0, bd_2, zee, fd_1, zef, Nat.zero_add, zem, zen, zeo, zep, zeq, zer, zes, e0, e1, e2, e11, e12, e13, q1, lenTk, ia, ib, ld, ldb, zeroT, st_Tt, stT_6, ldT_u, cc, unA_not', Bool.not_true, f5]
        exact ih (i + 1) _ _ (by omega) rfl ⟨(by first | (simp only [zfa, ↓reduceIte, Nat.reduceEqDiff, e0]; done) | (simp only [zfa, ↓reduceIte, Nat.reduceEqDiff, e0]; rfl)), (by first | (simp only [zfa, ↓reduceIte, Nat.reduceEqDiff, e1]; done) | (simp only [zfa, ↓reduceIte, Nat.reduceEqDiff, e1]; rfl)), (by first | (simp only [zfa, ↓reduceIte, Nat.reduceEqDiff, e2]; done) | (simp only [zfa, ↓reduceIte, Nat.reduceEqDiff, e2]; rfl)), (by first | (simp only [zfa, ↓reduceIte, Nat.reduceEqDiff, e11]; done) | (simp only [zfa, ↓reduceIte, Nat.reduceEqDiff, e11]; rfl)), (by first | (simp only [zfa, ↓reduceIte, Nat.reduceEqDiff, e12]; done) | (simp only [zfa, ↓reduceIte, Nat.reduceEqDiff, e12]; rfl)), (by first | (simp only [zfa, ↓reduceIte, Nat.reduceEqDiff]; done) | (simp only [zfa, ↓reduceIte, Nat.reduceEqDiff]; rfl)), by omega, by rw [drop_next hda, drop_next hdb]; exact hc⟩
      | false =>
        rw [g, Bool.false_and] at hc
        rw [g] at cc
        rw [← hc]
        simp only [zaa, zab, zac, zad, zae, zaf, zag, zah, zai, zaj, zak, zal, zam, zan, zao, zap, zaq, zar, zas, zat, zau, zav, zaw, zax, zay, zaz, zba, zbb, zbc, zbd, zbe, zbf, zbg, zbh, zbi, zbj, Nat.reduceBEq, Bool.or_self, Bool.or_false, Bool.or_true, Bool.and_true, Bool.and_false, Bool.true_and, Bool.false_and, Option.isNone_none, Option.isNone_some, Option.isSome_some, Option.isSome_none, zbk, zbl, zbm, zbn, zbo, zbp, zbq, zbr, zbs, zbt, zbu, zbv, zbw, zbx, zby, zbz, zca, zcb, zcc, zcd, zce, zcf, zcg, zch, zci, zcj, zck, zcl, zcm, zcn, zco, zcp, zcq, zcr, zcs, zct, zcu, zcv, zcw, zcx, zcy, zcz, zda, zdb, zdc, zdd, zde, zdf, Option.getD_some, Option.getD_none, zet, zeu, zev, zew, zex, zey, zez, zfa, Option.map_some, Option.map_none, Option.bind_some, List.map_cons, List.map_nil, List.cons_append, List.nil_append, ↓reduceIte, Nat.reduceEqDiff, Nat.reduceAdd, decide_true, decide_false, Bool.true_eq_false, Bool.false_eq_true, zdg, zdh, zdi, zdj, zdk, zdl, zdm, zdn, ia22, ld31, zdo, zdp, zdq, zdr, zds, zdt, zdu, zdv, zdw, zdx, zdy, zdz, zea, zeb, zec, fa_0, fa_1, zed, bd_0, bd_2, zee, fd_1, zef, Nat.zero_add, zem, zen, zeo, zep, zeq, zer, zes, e0, e1, e2, e11, e12, e13, q1, lenTk, ia, ib, ld, ldb, zeroT, st_Tt, stT_6, ldT_u, cc, unA_not', Bool.not_false, f5]
        exact finish_b _ _ _ _ _ _ _ (by first | (simp only [zfa, ↓reduceIte, Nat.reduceEqDiff]; done) | (simp only [zfa, ↓reduceIte, Nat.reduceEqDiff]; rfl)) rfl
theorem isTree_K (g : Gk) (ks : List T) : isTree (.sl (cellsK ks) ks.length (gr g)) = true := by cases g <;> rfl
theorem all_eq (d : Nat) (us vs : List T) (ag bg : Gk) (ha : us.length < 100000)
    (h : ∀ i j x y q r, us.drop i = x :: q → vs.drop j = y :: r → evalFn Tryd.prog cfg0 100000 d 20 [.tree (encT x), .tree (encT y)] = some (.tree (.bool (sameT x y)), [[], []])) :
    evalFn Tryd.prog cfg0 100000 (d+2) 37 [.tree (.sl (cellsK us) us.length (gr ag)), .tree (.sl (cellsK vs) vs.length (gr bg))] = some (.tree (.bool (sameK us vs)), [[], []]) := by
  rw [evalFn_go _ Tryd.func37 (by unfold Tryd.f37; rfl) (by unfold Tryd.f37; decide) (Nat.le_of_ble_eq_true (by unfold Tryd.f37; rfl)) (by kernel_rfl)]
  have hf := sameF_eq d us vs ag bg ha h
  have c1 := fun D st => callA_trees (cfg := cfg0) (d := D) (s := st) (f := 61) (vs := [.sl (cellsK us) us.length (gr ag), .sl (cellsK vs) vs.length (gr bg), .fn 20 []]) (by simp only [List.all_cons, isTree_K, Bool.true_and]; rfl) hf
  simp only [zaa, zab, zac, zad, zae, zaf, zag, zah, zai, zaj, zak, zal, zam, zan, zao, zap, zaq, zar, zas, zat, zau, zav, zaw, zax, zay, zaz, zba, zbb, zbc, zbd, zbe, zbf, zbg, zbh, zbi, zbj, Nat.reduceBEq, Bool.or_self, Bool.or_false, Bool.or_true, Bool.and_true, Bool.and_false, Bool.true_and, Bool.false_and, Option.isNone_none, Option.isNone_some, Option.isSome_some, Option.isSome_none, zbk, zbl, zbm, zbn, zbo, zbp, zbq, zbr, zbs, zbt, zbu, zbv, zbw, zbx, zby, zbz, zca, zcb, zcc, zcd, zce, zcf, zcg, zch, zci, zcj, zck, zcl, zcm, zcn, zco, zcp, zcq, zcr, zcs, zct, zcu, zcv, zcw, zcx, zcy, zcz, zda, zdb, zdc, zdd, zde, zdf, Option.getD_some, Option.getD_none, zet, zeu, zev, zew, zex, zey, zez, zfa, Option.map_some, Option.map_none, Option.bind_some, List.map_cons, List.map_nil, List.cons_append, List.nil_append, ↓reduceIte, Nat.reduceEqDiff, Nat.reduceAdd, decide_true, decide_false, Bool.true_eq_false, Bool.false_eq_true, env0, List.getElem?_cons_zero, List.getElem?_cons_succ, zdg, zdh, zdi, zdj, zdk, zdl, zdm, zdn, ia22, ld31, zdo, zdp, c1]
  exact finish_b _ _ _ _ _ _ _ (by first | (simp only [zfa, ↓reduceIte, Nat.reduceEqDiff]; done) | (simp only [zfa, ↓reduceIte, Nat.reduceEqDiff]; rfl)) rfl
theorem faN_0' (s : St) (p k off : Nat) : fieldAddrA Tryd.prog 25 s (.ptr p k off) 0 = faE (s p) p k off := faN_0 s p k off
theorem ldB_1 (t k : Nat) (a b c d e f : AV) : ldE Tryd.prog 4 ⟨t, .buf [a, b, c, d, e, f]⟩ k 1 = if t = k then some b else none := by
  rw [ldE, cellsE_buf]
  by_cases h : t = k
  · simp [h, partA, sh4]
  · simp [h]
theorem ldB_2 (t k : Nat) (a b c d e f : AV) : ldE Tryd.prog 23 ⟨t, .buf [a, b, c, d, e, f]⟩ k 2 = if t = k then some c else none := by
  rw [ldE, cellsE_buf]
  by_cases h : t = k
  · simp [h, partA, sh22]
  · simp [h]
/-- So many limbs at most, everywhere; so many kids. -/
theorem strEq (a b : List UInt8) : (a == b) = decide (a = b) := by rw [Bool.eq_iff_iff, beq_iff_eq, decide_eq_true_eq]
theorem intEq (x y : Int) : (x == y) = decide (x = y) := by rw [Bool.eq_iff_iff, beq_iff_eq, decide_eq_true_eq]
theorem boolEq (x y : Bool) : (x == y) = decide (x = y) := by cases x <;> cases y <;> rfl
mutual
def fewT (m : Nat) : T → Prop
  | .mk _ _ _ l _ _ _ ks => l.length < m ∧ ks.length < m ∧ fewK m ks
def fewK (m : Nat) : List T → Prop
  | [] => True
  | t :: r => fewT m t ∧ fewK m r
end
theorem fewK_at (m : Nat) : ∀ (ks : List T) (i : Nat) (t : T) (r : List T), ks.drop i = t :: r → fewK m ks → fewT m t
  | [], i, t, r, h, _ => by simp at h
  | a :: q, 0, t, r, h, hw => by simp only [List.drop_zero, List.cons.injEq] at h; obtain ⟨rfl, rfl⟩ := h; simp only [fewK] at hw; exact hw.1
  | a :: q, i + 1, t, r, h, hw => by simp only [fewK] at hw; exact fewK_at m q i t r (by simpa using h) hw.2
set_option maxHeartbeats 32000000 in
theorem tsame_eq : ∀ (d D : Nat) (a0 b0 : T), htT a0 ≤ d → 3 * d ≤ D → fewT 100000 a0 →
    evalFn Tryd.prog cfg0 100000 D 20 [.tree (encT a0), .tree (encT b0)] = some (.tree (.bool (sameT a0 b0)), [[], []])
  | 0, _, a0, b0, hd, _, hn => by obtain ⟨k, b, lg, l, s, m, kg, ks⟩ := a0; simp only [htT] at hd; omega
  | d + 1, D, a0, b0, hd, hD, hn => by
    obtain ⟨m, rfl⟩ : ∃ m, D = m + 3 := ⟨D - 3, by omega⟩
    have IH := fun D h a b h1 h2 => tsame_eq d D a b h1 h h2
    rw [evalFn_go _ Tryd.func20 (by unfold Tryd.f20; rfl) (by unfold Tryd.f20; decide) (Nat.le_of_ble_eq_true (by unfold Tryd.f20; rfl)) (by kernel_rfl)]
    obtain ⟨k, n1, lg, l, s, i1, kg, ks⟩ := a0
    obtain ⟨k', n2, lg', l', s', i2, kg', ks'⟩ := b0
    have hf : l.length < 100000 ∧ ks.length < 100000 ∧ fewK 100000 ks := by simp only [fewT] at hn; exact hn
    have hhk : htK ks ≤ d := by simp only [htT] at hd; omega
    have c1 := fun D st => callA_trees (cfg := cfg0) (d := D) (s := st) (f := 36) (vs := [encL lg l, encL lg' l']) (by cases lg <;> cases lg' <;> rfl) (eqLG_eq 100000 (m+1) lg lg' l l' hf.1 (by omega))
    have eb := bool_eql 4 tk4
    have ha := all_eq m ks ks' kg kg' hf.2.1 (fun i j x y q r h1 h2 => IH m (by omega) x y (by have := kids_ht ks i x q h1; omega) (fewK_at _ ks i x q h1 hf.2.2))
    have c2 := fun D st => callA_trees (cfg := cfg0) (d := D) (s := st) (f := 37) (vs := [.sl (cellsK ks) ks.length (gr kg), .sl (cellsK ks') ks'.length (gr kg')]) (by simp only [List.all_cons, isTree_K, Bool.true_and]; rfl) ha
    by_cases hk : k = k'
    case neg =>
      have p1 : (k != k') = true := by rw [bne_iff_ne]; exact hk
      have hr : sameT (.mk k n1 lg l s i1 kg ks) (.mk k' n2 lg' l' s' i2 kg' ks') = false := by first | (simp [sameT, kindT, sgnT, limT, strT, nT, kidsT, hk]; done) | (simp [sameT, kindT, sgnT, limT, strT, nT, kidsT, hk]; rfl)
      rw [hr]
      simp only [zaa, zab, zac, zad, zae, zaf, zag, zah, zai, zaj, zak, zal, zam, zan, zao, zap, zaq, zar, zas, zat, zau, zav, zaw, zax, zay, zaz, zba, zbb, zbc, zbd, zbe, zbf, zbg, zbh, zbi, zbj, Nat.reduceBEq, Bool.or_self, Bool.or_false, Bool.or_true, Bool.and_true, Bool.and_false, Bool.true_and, Bool.false_and, Option.isNone_none, Option.isNone_some, Option.isSome_some, Option.isSome_none, zbk, zbl, zbm, zbn, zbo, zbp, zbq, zbr, zbs, zbt, zbu, zbv, zbw, zbx, zby, zbz, zca, zcb, zcc, zcd, zce, zcf, zcg, zch, zci, zcj, zck, zcl, zcm, zcn, zco, zcp, zcq, zcr, zcs, zct, zcu, zcv, zcw, zcx, zcy, zcz, zda, zdb, zdc, zdd, zde, zdf, Option.getD_some, Option.getD_none, zet, zeu, zev, zew, zex, zey, zez, zfa, Option.map_some, Option.map_none, Option.bind_some, List.map_cons, List.map_nil, List.cons_append, List.nil_append, ↓reduceIte, Nat.reduceEqDiff, Nat.reduceAdd, decide_true, decide_false, Bool.true_eq_false, Bool.false_eq_true, env0, List.getElem?_cons_zero, List.getElem?_cons_succ, zdg, zdh, zdi, zdj, zdk, zdl, zdm, zdn, ia22, ld31, zdo, zdp, zdq, zdr, zds, zdt, zdu, zdv, zdw, zdx, zdy, zdz, zea, zeb, zec, fa_0, fa_1, zed, bd_0, bd_2, zee, fd_1, zef, Nat.zero_add, encT, cellsT, faT_0, ldT_0, p1]
      exact finish_b _ _ _ _ _ _ _ (by first | (simp only [zfa, ↓reduceIte, Nat.reduceEqDiff]; done) | (simp only [zfa, ↓reduceIte, Nat.reduceEqDiff]; rfl)) rfl
    subst hk
    have iq : (i1 == i2) = decide (i1 = i2) := intEq _ _
    have p1 : (k != k) = false := bne_self_eq_false _
    have iq : (i1 == i2) = decide (i1 = i2) := intEq _ _
    by_cases h1 : k = 1
    · subst h1
      have hr : sameT (.mk 1 n1 lg l s i1 kg ks) (.mk 1 n2 lg' l' s' i2 kg' ks') = (decide (n1 = n2) && decide (l = l')) := by first | (simp [sameT, kindT, sgnT, limT, strT, nT, kidsT]; done) | (simp [sameT, kindT, sgnT, limT, strT, nT, kidsT]; rfl)
      by_cases g : n1 = n2
      · have g' : (n1 == n2) = true := beq_iff_eq.mpr g
        rw [hr, decide_eq_true g, Bool.true_and]
        simp only [zaa, zab, zac, zad, zae, zaf, zag, zah, zai, zaj, zak, zal, zam, zan, zao, zap, zaq, zar, zas, zat, zau, zav, zaw, zax, zay, zaz, zba, zbb, zbc, zbd, zbe, zbf, zbg, zbh, zbi, zbj, Nat.reduceBEq, Bool.or_self, Bool.or_false, Bool.or_true, Bool.and_true, Bool.and_false, Bool.true_and, Bool.false_and, Option.isNone_none, Option.isNone_some, Option.isSome_some, Option.isSome_none, zbk, zbl, zbm, zbn, zbo, zbp, zbq, zbr, zbs, zbt, zbu, zbv, zbw, zbx, zby, zbz, zca, zcb, zcc, zcd, zce, zcf, zcg, zch, zci, zcj, zck, zcl, zcm, zcn, zco, zcp, zcq, zcr, zcs, zct, zcu, zcv, zcw, zcx, zcy, zcz, zda, zdb, zdc, zdd, zde, zdf, Option.getD_some, Option.getD_none, zet, zeu, zev, zew, zex, zey, zez, zfa, Option.map_some, Option.map_none, Option.bind_some, List.map_cons, List.map_nil, List.cons_append, List.nil_append, ↓reduceIte, Nat.reduceEqDiff, Nat.reduceAdd, decide_true, decide_false, Bool.true_eq_false, Bool.false_eq_true, env0, List.getElem?_cons_zero, List.getElem?_cons_succ, zdg, zdh, zdi, zdj, zdk, zdl, zdm, zdn, ia22, ld31, zdo, zdp, zdq, zdr, zds, zdt, zdu, zdv, zdw, zdx, zdy, zdz, zea, zeb, zec, fa_0, fa_1, zed, bd_0, bd_2, zee, fd_1, zef, Nat.zero_add, encT, cellsT, faT_0, faT_1, faT_2, faT_3, faT_4, faN_0, faN_1, ldT_0, ldT_2, ldT_3, ldT_4, ldB_1, ldB_2, Nat.reduceAdd, p1, i_eqlV, Int.reduceBEq, eb, g', c1]
        exact finish_b _ _ _ _ _ _ _ (by first | (simp only [zfa, ↓reduceIte, Nat.reduceEqDiff]; done) | (simp only [zfa, ↓reduceIte, Nat.reduceEqDiff]; rfl)) rfl
      · have g' : (n1 == n2) = false := beq_eq_false_iff_ne.mpr g
        rw [hr, decide_eq_false g, Bool.false_and]
        simp only [zaa, zab, zac, zad, zae, zaf, zag, zah, zai, zaj, zak, zal, zam, zan, zao, zap, zaq, zar, zas, zat, zau, zav, zaw, zax, zay, zaz, zba, zbb, zbc, zbd, zbe, zbf, zbg, zbh, zbi, zbj, Nat.reduceBEq, Bool.or_self, Bool.or_false, Bool.or_true, Bool.and_true, Bool.and_false, Bool.true_and, Bool.false_and, Option.isNone_none, Option.isNone_some, Option.isSome_some, Option.isSome_none, zbk, zbl, zbm, zbn, zbo, zbp, zbq, zbr, zbs, zbt, zbu, zbv, zbw, zbx, zby, zbz, zca, zcb, zcc, zcd, zce, zcf, zcg, zch, zci, zcj, zck, zcl, zcm, zcn, zco, zcp, zcq, zcr, zcs, zct, zcu, zcv, zcw, zcx, zcy, zcz, zda, zdb, zdc, zdd, zde, zdf, Option.getD_some, Option.getD_none, zet, zeu, zev, zew, zex, zey, zez, zfa, Option.map_some, Option.map_none, Option.bind_some, List.map_cons, List.map_nil, List.cons_append, List.nil_append, ↓reduceIte, Nat.reduceEqDiff, Nat.reduceAdd, decide_true, decide_false, Bool.true_eq_false, Bool.false_eq_true, env0, List.getElem?_cons_zero, List.getElem?_cons_succ, zdg, zdh, zdi, zdj, zdk, zdl, zdm, zdn, ia22, ld31, zdo, zdp, zdq, zdr, zds, zdt, zdu, zdv, zdw, zdx, zdy, zdz, zea, zeb, zec, fa_0, fa_1, zed, bd_0, bd_2, zee, fd_1, zef, Nat.zero_add, encT, cellsT, faT_0, faT_1, faT_2, faT_3, faT_4, faN_0, faN_1, ldT_0, ldT_2, ldT_3, ldT_4, ldB_1, ldB_2, Nat.reduceAdd, p1, i_eqlV, Int.reduceBEq, eb, g', c1]
        exact finish_b _ _ _ _ _ _ _ (by first | (simp only [zfa, ↓reduceIte, Nat.reduceEqDiff]; done) | (simp only [zfa, ↓reduceIte, Nat.reduceEqDiff]; rfl)) rfl
    have b1 : (k == 1) = false := beq_eq_false_iff_ne.mpr h1
    by_cases h6 : k = 6
    · subst h6
      have hr : sameT (.mk 6 n1 lg l s i1 kg ks) (.mk 6 n2 lg' l' s' i2 kg' ks') = decide (s = s') := by first | (simp [sameT, kindT, sgnT, limT, strT, nT, kidsT]; done) | (simp [sameT, kindT, sgnT, limT, strT, nT, kidsT]; rfl)
      rw [hr]
      simp only [zaa, zab, zac, zad, zae, zaf, zag, zah, zai, zaj, zak, zal, zam, zan, zao, zap, zaq, zar, zas, zat, zau, zav, zaw, zax, zay, zaz, zba, zbb, zbc, zbd, zbe, zbf, zbg, zbh, zbi, zbj, Nat.reduceBEq, Bool.or_self, Bool.or_false, Bool.or_true, Bool.and_true, Bool.and_false, Bool.true_and, Bool.false_and, Option.isNone_none, Option.isNone_some, Option.isSome_some, Option.isSome_none, zbk, zbl, zbm, zbn, zbo, zbp, zbq, zbr, zbs, zbt, zbu, zbv, zbw, zbx, zby, zbz, zca, zcb, zcc, zcd, zce, zcf, zcg, zch, zci, zcj, zck, zcl, zcm, zcn, zco, zcp, zcq, zcr, zcs, zct, zcu, zcv, zcw, zcx, zcy, zcz, zda, zdb, zdc, zdd, zde, zdf, Option.getD_some, Option.getD_none, zet, zeu, zev, zew, zex, zey, zez, zfa, Option.map_some, Option.map_none, Option.bind_some, List.map_cons, List.map_nil, List.cons_append, List.nil_append, ↓reduceIte, Nat.reduceEqDiff, Nat.reduceAdd, decide_true, decide_false, Bool.true_eq_false, Bool.false_eq_true, env0, List.getElem?_cons_zero, List.getElem?_cons_succ, zdg, zdh, zdi, zdj, zdk, zdl, zdm, zdn, ia22, ld31, zdo, zdp, zdq, zdr, zds, zdt, zdu, zdv, zdw, zdx, zdy, zdz, zea, zeb, zec, fa_0, fa_1, zed, bd_0, bd_2, zee, fd_1, zef, Nat.zero_add, encT, cellsT, faT_0, faT_1, faT_2, faT_3, faT_4, faN_0, faN_1, ldT_0, ldT_2, ldT_3, ldT_4, ldB_1, ldB_2, Nat.reduceAdd, p1, i_eqlV, Int.reduceBEq, s_eqlS, strEq]
      exact finish_b _ _ _ _ _ _ _ (by first | (simp only [zfa, ↓reduceIte, Nat.reduceEqDiff]; done) | (simp only [zfa, ↓reduceIte, Nat.reduceEqDiff]; rfl)) rfl
    have b6 : (k == 6) = false := beq_eq_false_iff_ne.mpr h6
    by_cases h2 : k = 2
    · subst h2
      have hr : sameT (.mk 2 n1 lg l s i1 kg ks) (.mk 2 n2 lg' l' s' i2 kg' ks') = decide (s = s') := by first | (simp [sameT, kindT, sgnT, limT, strT, nT, kidsT]; done) | (simp [sameT, kindT, sgnT, limT, strT, nT, kidsT]; rfl)
      rw [hr]
      simp only [zaa, zab, zac, zad, zae, zaf, zag, zah, zai, zaj, zak, zal, zam, zan, zao, zap, zaq, zar, zas, zat, zau, zav, zaw, zax, zay, zaz, zba, zbb, zbc, zbd, zbe, zbf, zbg, zbh, zbi, zbj, Nat.reduceBEq, Bool.or_self, Bool.or_false, Bool.or_true, Bool.and_true, Bool.and_false, Bool.true_and, Bool.false_and, Option.isNone_none, Option.isNone_some, Option.isSome_some, Option.isSome_none, zbk, zbl, zbm, zbn, zbo, zbp, zbq, zbr, zbs, zbt, zbu, zbv, zbw, zbx, zby, zbz, zca, zcb, zcc, zcd, zce, zcf, zcg, zch, zci, zcj, zck, zcl, zcm, zcn, zco, zcp, zcq, zcr, zcs, zct, zcu, zcv, zcw, zcx, zcy, zcz, zda, zdb, zdc, zdd, zde, zdf, Option.getD_some, Option.getD_none, zet, zeu, zev, zew, zex, zey, zez, zfa, Option.map_some, Option.map_none, Option.bind_some, List.map_cons, List.map_nil, List.cons_append, List.nil_append, ↓reduceIte, Nat.reduceEqDiff, Nat.reduceAdd, decide_true, decide_false, Bool.true_eq_false, Bool.false_eq_true, env0, List.getElem?_cons_zero, List.getElem?_cons_succ, zdg, zdh, zdi, zdj, zdk, zdl, zdm, zdn, ia22, ld31, zdo, zdp, zdq, zdr, zds, zdt, zdu, zdv, zdw, zdx, zdy, zdz, zea, zeb, zec, fa_0, fa_1, zed, bd_0, bd_2, zee, fd_1, zef, Nat.zero_add, encT, cellsT, faT_0, faT_1, faT_2, faT_3, faT_4, faN_0, faN_1, ldT_0, ldT_2, ldT_3, ldT_4, ldB_1, ldB_2, Nat.reduceAdd, p1, i_eqlV, Int.reduceBEq, s_eqlS, strEq]
      exact finish_b _ _ _ _ _ _ _ (by first | (simp only [zfa, ↓reduceIte, Nat.reduceEqDiff]; done) | (simp only [zfa, ↓reduceIte, Nat.reduceEqDiff]; rfl)) rfl
    have b2 : (k == 2) = false := beq_eq_false_iff_ne.mpr h2
    by_cases h8 : k = 8
    · subst h8
      have hr : sameT (.mk 8 n1 lg l s i1 kg ks) (.mk 8 n2 lg' l' s' i2 kg' ks') = (decide (s = s') && decide (i1 = i2)) := by first | (simp [sameT, kindT, sgnT, limT, strT, nT, kidsT]; done) | (simp [sameT, kindT, sgnT, limT, strT, nT, kidsT]; rfl)
      by_cases g : s = s'
      · have g' : (s == s') = true := beq_iff_eq.mpr g
        rw [hr, decide_eq_true g, Bool.true_and]
        simp only [zaa, zab, zac, zad, zae, zaf, zag, zah, zai, zaj, zak, zal, zam, zan, zao, zap, zaq, zar, zas, zat, zau, zav, zaw, zax, zay, zaz, zba, zbb, zbc, zbd, zbe, zbf, zbg, zbh, zbi, zbj, Nat.reduceBEq, Bool.or_self, Bool.or_false, Bool.or_true, Bool.and_true, Bool.and_false, Bool.true_and, Bool.false_and, Option.isNone_none, Option.isNone_some, Option.isSome_some, Option.isSome_none, zbk, zbl, zbm, zbn, zbo, zbp, zbq, zbr, zbs, zbt, zbu, zbv, zbw, zbx, zby, zbz, zca, zcb, zcc, zcd, zce, zcf, zcg, zch, zci, zcj, zck, zcl, zcm, zcn, zco, zcp, zcq, zcr, zcs, zct, zcu, zcv, zcw, zcx, zcy, zcz, zda, zdb, zdc, zdd, zde, zdf, Option.getD_some, Option.getD_none, zet, zeu, zev, zew, zex, zey, zez, zfa, Option.map_some, Option.map_none, Option.bind_some, List.map_cons, List.map_nil, List.cons_append, List.nil_append, ↓reduceIte, Nat.reduceEqDiff, Nat.reduceAdd, decide_true, decide_false, Bool.true_eq_false, Bool.false_eq_true, env0, List.getElem?_cons_zero, List.getElem?_cons_succ, zdg, zdh, zdi, zdj, zdk, zdl, zdm, zdn, ia22, ld31, zdo, zdp, zdq, zdr, zds, zdt, zdu, zdv, zdw, zdx, zdy, zdz, zea, zeb, zec, fa_0, fa_1, zed, bd_0, bd_2, zee, fd_1, zef, Nat.zero_add, encT, cellsT, faT_0, faT_1, faT_2, faT_3, faT_4, faN_0, faN_1, ldT_0, ldT_2, ldT_3, ldT_4, ldB_1, ldB_2, Nat.reduceAdd, p1, i_eqlV, Int.reduceBEq, eb, g', s_eqlS, iq]
        exact finish_b _ _ _ _ _ _ _ (by first | (simp only [zfa, ↓reduceIte, Nat.reduceEqDiff]; done) | (simp only [zfa, ↓reduceIte, Nat.reduceEqDiff]; rfl)) rfl
      · have g' : (s == s') = false := beq_eq_false_iff_ne.mpr g
        rw [hr, decide_eq_false g, Bool.false_and]
        simp only [zaa, zab, zac, zad, zae, zaf, zag, zah, zai, zaj, zak, zal, zam, zan, zao, zap, zaq, zar, zas, zat, zau, zav, zaw, zax, zay, zaz, zba, zbb, zbc, zbd, zbe, zbf, zbg, zbh, zbi, zbj, Nat.reduceBEq, Bool.or_self, Bool.or_false, Bool.or_true, Bool.and_true, Bool.and_false, Bool.true_and, Bool.false_and, Option.isNone_none, Option.isNone_some, Option.isSome_some, Option.isSome_none, zbk, zbl, zbm, zbn, zbo, zbp, zbq, zbr, zbs, zbt, zbu, zbv, zbw, zbx, zby, zbz, zca, zcb, zcc, zcd, zce, zcf, zcg, zch, zci, zcj, zck, zcl, zcm, zcn, zco, zcp, zcq, zcr, zcs, zct, zcu, zcv, zcw, zcx, zcy, zcz, zda, zdb, zdc, zdd, zde, zdf, Option.getD_some, Option.getD_none, zet, zeu, zev, zew, zex, zey, zez, zfa, Option.map_some, Option.map_none, Option.bind_some, List.map_cons, List.map_nil, List.cons_append, List.nil_append, ↓reduceIte, Nat.reduceEqDiff, Nat.reduceAdd, decide_true, decide_false, Bool.true_eq_false, Bool.false_eq_true, env0, List.getElem?_cons_zero, List.getElem?_cons_succ, zdg, zdh, zdi, zdj, zdk, zdl, zdm, zdn, ia22, ld31, zdo, zdp, zdq, zdr, zds, zdt, zdu, zdv, zdw, zdx, zdy, zdz, zea, zeb, zec, fa_0, fa_1, zed, bd_0, bd_2, zee, fd_1, zef, Nat.zero_add, encT, cellsT, faT_0, faT_1, faT_2, faT_3, faT_4, faN_0, faN_1, ldT_0, ldT_2, ldT_3, ldT_4, ldB_1, ldB_2, Nat.reduceAdd, p1, i_eqlV, Int.reduceBEq, eb, g', s_eqlS, iq]
        exact finish_b _ _ _ _ _ _ _ (by first | (simp only [zfa, ↓reduceIte, Nat.reduceEqDiff]; done) | (simp only [zfa, ↓reduceIte, Nat.reduceEqDiff]; rfl)) rfl
    have b8 : (k == 8) = false := beq_eq_false_iff_ne.mpr h8
    by_cases h9 : k = 9
    · subst h9
      have hr : sameT (.mk 9 n1 lg l s i1 kg ks) (.mk 9 n2 lg' l' s' i2 kg' ks') = decide (i1 = i2) := by first | (simp [sameT, kindT, sgnT, limT, strT, nT, kidsT]; done) | (simp [sameT, kindT, sgnT, limT, strT, nT, kidsT]; rfl)
      rw [hr]
      simp only [zaa, zab, zac, zad, zae, zaf, zag, zah, zai, zaj, zak, zal, zam, zan, zao, zap, zaq, zar, zas, zat, zau, zav, zaw, zax, zay, zaz, zba, zbb, zbc, zbd, zbe, zbf, zbg, zbh, zbi, zbj, Nat.reduceBEq, Bool.or_self, Bool.or_false, Bool.or_true, Bool.and_true, Bool.and_false, Bool.true_and, Bool.false_and, Option.isNone_none, Option.isNone_some, Option.isSome_some, Option.isSome_none, zbk, zbl, zbm, zbn, zbo, zbp, zbq, zbr, zbs, zbt, zbu, zbv, zbw, zbx, zby, zbz, zca, zcb, zcc, zcd, zce, zcf, zcg, zch, zci, zcj, zck, zcl, zcm, zcn, zco, zcp, zcq, zcr, zcs, zct, zcu, zcv, zcw, zcx, zcy, zcz, zda, zdb, zdc, zdd, zde, zdf, Option.getD_some, Option.getD_none, zet, zeu, zev, zew, zex, zey, zez, zfa, Option.map_some, Option.map_none, Option.bind_some, List.map_cons, List.map_nil, List.cons_append, List.nil_append, ↓reduceIte, Nat.reduceEqDiff, Nat.reduceAdd, decide_true, decide_false, Bool.true_eq_false, Bool.false_eq_true, env0, List.getElem?_cons_zero, List.getElem?_cons_succ, zdg, zdh, zdi, zdj, zdk, zdl, zdm, zdn, ia22, ld31, zdo, zdp, zdq, zdr, zds, zdt, zdu, zdv, zdw, zdx, zdy, zdz, zea, zeb, zec, fa_0, fa_1, zed, bd_0, bd_2, zee, fd_1, zef, Nat.zero_add, encT, cellsT, faT_0, faT_1, faT_2, faT_3, faT_4, faN_0, faN_1, ldT_0, ldT_2, ldT_3, ldT_4, ldB_1, ldB_2, Nat.reduceAdd, p1, i_eqlV, Int.reduceBEq, iq]
      exact finish_b _ _ _ _ _ _ _ (by first | (simp only [zfa, ↓reduceIte, Nat.reduceEqDiff]; done) | (simp only [zfa, ↓reduceIte, Nat.reduceEqDiff]; rfl)) rfl
    have b9 : (k == 9) = false := beq_eq_false_iff_ne.mpr h9
    by_cases h7 : k = 7
    · subst h7
      have hr : sameT (.mk 7 n1 lg l s i1 kg ks) (.mk 7 n2 lg' l' s' i2 kg' ks') = (decide (i1 = i2) && sameK ks ks') := by first | (simp [sameT, kindT, sgnT, limT, strT, nT, kidsT]; done) | (simp [sameT, kindT, sgnT, limT, strT, nT, kidsT]; rfl)
      by_cases g : i1 = i2
      · have g' : (i1 == i2) = true := beq_iff_eq.mpr g
        rw [hr, decide_eq_true g, Bool.true_and]
        simp only [zaa, zab, zac, zad, zae, zaf, zag, zah, zai, zaj, zak, zal, zam, zan, zao, zap, zaq, zar, zas, zat, zau, zav, zaw, zax, zay, zaz, zba, zbb, zbc, zbd, zbe, zbf, zbg, zbh, zbi, zbj, Nat.reduceBEq, Bool.or_self, Bool.or_false, Bool.or_true, Bool.and_true, Bool.and_false, Bool.true_and, Bool.false_and, Option.isNone_none, Option.isNone_some, Option.isSome_some, Option.isSome_none, zbk, zbl, zbm, zbn, zbo, zbp, zbq, zbr, zbs, zbt, zbu, zbv, zbw, zbx, zby, zbz, zca, zcb, zcc, zcd, zce, zcf, zcg, zch, zci, zcj, zck, zcl, zcm, zcn, zco, zcp, zcq, zcr, zcs, zct, zcu, zcv, zcw, zcx, zcy, zcz, zda, zdb, zdc, zdd, zde, zdf, Option.getD_some, Option.getD_none, zet, zeu, zev, zew, zex, zey, zez, zfa, Option.map_some, Option.map_none, Option.bind_some, List.map_cons, List.map_nil, List.cons_append, List.nil_append, ↓reduceIte, Nat.reduceEqDiff, Nat.reduceAdd, decide_true, decide_false, Bool.true_eq_false, Bool.false_eq_true, env0, List.getElem?_cons_zero, List.getElem?_cons_succ, zdg, zdh, zdi, zdj, zdk, zdl, zdm, zdn, ia22, ld31, zdo, zdp, zdq, zdr, zds, zdt, zdu, zdv, zdw, zdx, zdy, zdz, zea, zeb, zec, fa_0, fa_1, zed, bd_0, bd_2, zee, fd_1, zef, Nat.zero_add, encT, cellsT, faT_0, faT_1, faT_2, faT_3, faT_4, faN_0, faN_1, ldT_0, ldT_2, ldT_3, ldT_4, ldB_1, ldB_2, Nat.reduceAdd, p1, i_eqlV, Int.reduceBEq, eb, g', c2]
        exact finish_b _ _ _ _ _ _ _ (by first | (simp only [zfa, ↓reduceIte, Nat.reduceEqDiff]; done) | (simp only [zfa, ↓reduceIte, Nat.reduceEqDiff]; rfl)) rfl
      · have g' : (i1 == i2) = false := beq_eq_false_iff_ne.mpr g
        rw [hr, decide_eq_false g, Bool.false_and]
        simp only [zaa, zab, zac, zad, zae, zaf, zag, zah, zai, zaj, zak, zal, zam, zan, zao, zap, zaq, zar, zas, zat, zau, zav, zaw, zax, zay, zaz, zba, zbb, zbc, zbd, zbe, zbf, zbg, zbh, zbi, zbj, Nat.reduceBEq, Bool.or_self, Bool.or_false, Bool.or_true, Bool.and_true, Bool.and_false, Bool.true_and, Bool.false_and, Option.isNone_none, Option.isNone_some, Option.isSome_some, Option.isSome_none, zbk, zbl, zbm, zbn, zbo, zbp, zbq, zbr, zbs, zbt, zbu, zbv, zbw, zbx, zby, zbz, zca, zcb, zcc, zcd, zce, zcf, zcg, zch, zci, zcj, zck, zcl, zcm, zcn, zco, zcp, zcq, zcr, zcs, zct, zcu, zcv, zcw, zcx, zcy, zcz, zda, zdb, zdc, zdd, zde, zdf, Option.getD_some, Option.getD_none, zet, zeu, zev, zew, zex, zey, zez, zfa, Option.map_some, Option.map_none, Option.bind_some, List.map_cons, List.map_nil, List.cons_append, List.nil_append, ↓reduceIte, Nat.reduceEqDiff, Nat.reduceAdd, decide_true, decide_false, Bool.true_eq_false, Bool.false_eq_true, env0, List.getElem?_cons_zero, List.getElem?_cons_succ, zdg, zdh, zdi, zdj, zdk, zdl, zdm, zdn, ia22, ld31, zdo, zdp, zdq, zdr, zds, zdt, zdu, zdv, zdw, zdx, zdy, zdz, zea, zeb, zec, fa_0, fa_1, zed, bd_0, bd_2, zee, fd_1, zef, Nat.zero_add, encT, cellsT, faT_0, faT_1, faT_2, faT_3, faT_4, faN_0, faN_1, ldT_0, ldT_2, ldT_3, ldT_4, ldB_1, ldB_2, Nat.reduceAdd, p1, i_eqlV, Int.reduceBEq, eb, g', c2]
        exact finish_b _ _ _ _ _ _ _ (by first | (simp only [zfa, ↓reduceIte, Nat.reduceEqDiff]; done) | (simp only [zfa, ↓reduceIte, Nat.reduceEqDiff]; rfl)) rfl
    have b7 : (k == 7) = false := beq_eq_false_iff_ne.mpr h7
    by_cases h5 : k = 5
    · subst h5
      have hr : sameT (.mk 5 n1 lg l s i1 kg ks) (.mk 5 n2 lg' l' s' i2 kg' ks') = sameK ks ks' := by first | (simp [sameT, kindT, sgnT, limT, strT, nT, kidsT]; done) | (simp [sameT, kindT, sgnT, limT, strT, nT, kidsT]; rfl)
      rw [hr]
      simp only [zaa, zab, zac, zad, zae, zaf, zag, zah, zai, zaj, zak, zal, zam, zan, zao, zap, zaq, zar, zas, zat, zau, zav, zaw, zax, zay, zaz, zba, zbb, zbc, zbd, zbe, zbf, zbg, zbh, zbi, zbj, Nat.reduceBEq, Bool.or_self, Bool.or_false, Bool.or_true, Bool.and_true, Bool.and_false, Bool.true_and, Bool.false_and, Option.isNone_none, Option.isNone_some, Option.isSome_some, Option.isSome_none, zbk, zbl, zbm, zbn, zbo, zbp, zbq, zbr, zbs, zbt, zbu, zbv, zbw, zbx, zby, zbz, zca, zcb, zcc, zcd, zce, zcf, zcg, zch, zci, zcj, zck, zcl, zcm, zcn, zco, zcp, zcq, zcr, zcs, zct, zcu, zcv, zcw, zcx, zcy, zcz, zda, zdb, zdc, zdd, zde, zdf, Option.getD_some, Option.getD_none, zet, zeu, zev, zew, zex, zey, zez, zfa, Option.map_some, Option.map_none, Option.bind_some, List.map_cons, List.map_nil, List.cons_append, List.nil_append, ↓reduceIte, Nat.reduceEqDiff, Nat.reduceAdd, decide_true, decide_false, Bool.true_eq_false, Bool.false_eq_true, env0, List.getElem?_cons_zero, List.getElem?_cons_succ, zdg, zdh, zdi, zdj, zdk, zdl, zdm, zdn, ia22, ld31, zdo, zdp, zdq, zdr, zds, zdt, zdu, zdv, zdw, zdx, zdy, zdz, zea, zeb, zec, fa_0, fa_1, zed, bd_0, bd_2, zee, fd_1, zef, Nat.zero_add, encT, cellsT, faT_0, faT_1, faT_2, faT_3, faT_4, faN_0, faN_1, ldT_0, ldT_2, ldT_3, ldT_4, ldB_1, ldB_2, Nat.reduceAdd, p1, i_eqlV, Int.reduceBEq, c2]
      exact finish_b _ _ _ _ _ _ _ (by first | (simp only [zfa, ↓reduceIte, Nat.reduceEqDiff]; done) | (simp only [zfa, ↓reduceIte, Nat.reduceEqDiff]; rfl)) rfl
    have b5 : (k == 5) = false := beq_eq_false_iff_ne.mpr h5
    by_cases h4 : k = 4
    · subst h4
      have hr : sameT (.mk 4 n1 lg l s i1 kg ks) (.mk 4 n2 lg' l' s' i2 kg' ks') = sameK ks ks' := by first | (simp [sameT, kindT, sgnT, limT, strT, nT, kidsT]; done) | (simp [sameT, kindT, sgnT, limT, strT, nT, kidsT]; rfl)
      rw [hr]
      simp only [zaa, zab, zac, zad, zae, zaf, zag, zah, zai, zaj, zak, zal, zam, zan, zao, zap, zaq, zar, zas, zat, zau, zav, zaw, zax, zay, zaz, zba, zbb, zbc, zbd, zbe, zbf, zbg, zbh, zbi, zbj, Nat.reduceBEq, Bool.or_self, Bool.or_false, Bool.or_true, Bool.and_true, Bool.and_false, Bool.true_and, Bool.false_and, Option.isNone_none, Option.isNone_some, Option.isSome_some, Option.isSome_none, zbk, zbl, zbm, zbn, zbo, zbp, zbq, zbr, zbs, zbt, zbu, zbv, zbw, zbx, zby, zbz, zca, zcb, zcc, zcd, zce, zcf, zcg, zch, zci, zcj, zck, zcl, zcm, zcn, zco, zcp, zcq, zcr, zcs, zct, zcu, zcv, zcw, zcx, zcy, zcz, zda, zdb, zdc, zdd, zde, zdf, Option.getD_some, Option.getD_none, zet, zeu, zev, zew, zex, zey, zez, zfa, Option.map_some, Option.map_none, Option.bind_some, List.map_cons, List.map_nil, List.cons_append, List.nil_append, ↓reduceIte, Nat.reduceEqDiff, Nat.reduceAdd, decide_true, decide_false, Bool.true_eq_false, Bool.false_eq_true, env0, List.getElem?_cons_zero, List.getElem?_cons_succ, zdg, zdh, zdi, zdj, zdk, zdl, zdm, zdn, ia22, ld31, zdo, zdp, zdq, zdr, zds, zdt, zdu, zdv, zdw, zdx, zdy, zdz, zea, zeb, zec, fa_0, fa_1, zed, bd_0, bd_2, zee, fd_1, zef, Nat.zero_add, encT, cellsT, faT_0, faT_1, faT_2, faT_3, faT_4, faN_0, faN_1, ldT_0, ldT_2, ldT_3, ldT_4, ldB_1, ldB_2, Nat.reduceAdd, p1, i_eqlV, Int.reduceBEq, c2]
      exact finish_b _ _ _ _ _ _ _ (by first | (simp only [zfa, ↓reduceIte, Nat.reduceEqDiff]; done) | (simp only [zfa, ↓reduceIte, Nat.reduceEqDiff]; rfl)) rfl
    have b4 : (k == 4) = false := beq_eq_false_iff_ne.mpr h4
    have hr : sameT (.mk k n1 lg l s i1 kg ks) (.mk k n2 lg' l' s' i2 kg' ks') = true := by first | (simp [sameT, kindT, sgnT, limT, strT, nT, kidsT, h1, h2, h4, h5, h6, h7, h8, h9]; done) | (simp [sameT, kindT, sgnT, limT, strT, nT, kidsT, h1, h2, h4, h5, h6, h7, h8, h9]; rfl)
    rw [hr]
    simp only [zaa, zab, zac, zad, zae, zaf, zag, zah, zai, zaj, zak, zal, zam, zan, zao, zap, zaq, zar, zas, zat, zau, zav, zaw, zax, zay, zaz, zba, zbb, zbc, zbd, zbe, zbf, zbg, zbh, zbi, zbj, Nat.reduceBEq, Bool.or_self, Bool.or_false, Bool.or_true, Bool.and_true, Bool.and_false, Bool.true_and, Bool.false_and, Option.isNone_none, Option.isNone_some, Option.isSome_some, Option.isSome_none, zbk, zbl, zbm, zbn, zbo, zbp, zbq, zbr, zbs, zbt, zbu, zbv, zbw, zbx, zby, zbz, zca, zcb, zcc, zcd, zce, zcf, zcg, zch, zci, zcj, zck, zcl, zcm, zcn, zco, zcp, zcq, zcr, zcs, zct, zcu, zcv, zcw, zcx, zcy, zcz, zda, zdb, zdc, zdd, zde, zdf, Option.getD_some, Option.getD_none, zet, zeu, zev, zew, zex, zey, zez, zfa, Option.map_some, Option.map_none, Option.bind_some, List.map_cons, List.map_nil, List.cons_append, List.nil_append, ↓reduceIte, Nat.reduceEqDiff, Nat.reduceAdd, decide_true, decide_false, Bool.true_eq_false, Bool.false_eq_true, env0, List.getElem?_cons_zero, List.getElem?_cons_succ, zdg, zdh, zdi, zdj, zdk, zdl, zdm, zdn, ia22, ld31, zdo, zdp, zdq, zdr, zds, zdt, zdu, zdv, zdw, zdx, zdy, zdz, zea, zeb, zec, fa_0, fa_1, zed, bd_0, bd_2, zee, fd_1, zef, Nat.zero_add, encT, cellsT, faT_0, ldT_0, p1, i_eqlV, b1, b2, b4, b5, b6, b7, b8, b9]
    exact finish_b _ _ _ _ _ _ _ (by first | (simp only [zfa, ↓reduceIte, Nat.reduceEqDiff]; done) | (simp only [zfa, ↓reduceIte, Nat.reduceEqDiff]; rfl)) rfl
end Go.Ab
