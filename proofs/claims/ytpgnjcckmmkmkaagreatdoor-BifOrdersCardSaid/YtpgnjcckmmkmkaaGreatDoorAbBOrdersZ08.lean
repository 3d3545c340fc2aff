/- Several texts put together: AbzT23, AbzT24, AbzB1, AbzB2, AbzB3, AbzA21, AbzR10, AbzA22, AbMn3, AbMn4, AbMn5, AbMn6, AbMn7, AbzA23, AbzA24, AbzA25, AbzA12, AbzA13, AbzA14, AbzA15, AbzA10, AbzA26, AbzA11, AbzA27, AbzA8, AbzA9o, AbzA28, AbMn8, AbzX1, AbzX2, AbzA19, AbzX3, AbzX4, AbzB4, AbzB5, AbzT25, AbzB6. Conditions: as each part says. -/
import Derived.Test.YtpgnjcckmmkmkaaGreatDoorAbBOrdersZ07
import Derived.Test.YtpgnjcckmmkmkaaGreatDoorAbBOrdersZ04
import Derived.Laws.Sem
import Derived.Test.YtpgnjcckmmkmkaaGreatDoorAbBOrdersZ03
/- Light terms; the items of a list. Conditions: lengths in range. -/
namespace Go.Ab
open Go.Proofs
set_option maxRecDepth 100000
set_option linter.unusedSimpArgs false

/-! ### Light -/
mutual
def lgT : T → Int → Int
  | .mk _ _ _ l s _ _ ks, n => if (l.length : Int) > 40 ∨ (s.length : Int) > 500 then -1 else lgK ks (n - 1)
def lgK : List T → Int → Int
  | [], n => n
  | t :: r, n => if n ≥ 0 then lgK r (lgT t n) else n
end
mutual
theorem lgT_lt : ∀ (t : T) (n : Int), 0 ≤ n → -1 ≤ lgT t n ∧ lgT t n ≤ n - 1
  | .mk _ _ _ l s _ _ ks, n, h => by
    simp only [lgT]
    split
    · omega
    · by_cases h1 : 0 ≤ n - 1
      · have := lgK_le ks (n - 1) (by omega); omega
      · have h2 : n - 1 = -1 := by omega
        rw [h2]
        cases ks with
        | nil => simp only [lgK]; omega
        | cons a r => simp only [lgK]; rw [if_neg (by omega)]; omega
theorem lgK_le : ∀ (ks : List T) (n : Int), -1 ≤ n → -1 ≤ lgK ks n ∧ lgK ks n ≤ n
  | [], n, h => by simp only [lgK]; omega
  | t :: r, n, h => by
    simp only [lgK]
    split
    · rename_i h0
      have h1 := lgT_lt t n h0
      have h2 := lgK_le r (lgT t n) h1.1
      omega
    · omega
end
mutual
/-- No numbers, no texts that are long. -/
def leanT : T → Prop
  | .mk _ _ _ l s _ _ ks => l.length ≤ 40 ∧ s.length ≤ 500 ∧ leanK ks
def leanK : List T → Prop
  | [] => True
  | t :: r => leanT t ∧ leanK r
end
mutual
theorem lgT_ok : ∀ (t : T) (n : Int), 0 ≤ lgT t n → leanT t ∧ lgT t n = n - nodT t
  | .mk _ _ _ l s _ _ ks, n, h => by
    simp only [lgT] at h ⊢
    split at h
    · omega
    · rename_i hc
      rw [if_neg hc]
      obtain ⟨h1, h2⟩ := lgK_ok ks (n - 1) h
      simp only [leanT, nodT]
      exact ⟨⟨by omega, by omega, h1⟩, by omega⟩
theorem lgK_ok : ∀ (ks : List T) (n : Int), 0 ≤ lgK ks n → leanK ks ∧ lgK ks n = n - nodK ks
  | [], n, h => by simp only [lgK, leanK, nodK]; exact ⟨trivial, by omega⟩
  | t :: r, n, h => by
    simp only [lgK] at h ⊢
    split at h
    · rename_i h0
      rw [if_pos h0]
      obtain ⟨h1, h2⟩ := lgK_ok r (lgT t n) h
      have h3 := nodK_nn r
      obtain ⟨h4, h5⟩ := lgT_ok t n (by omega)
      simp only [leanK, nodK]
      exact ⟨⟨h4, h1⟩, by omega⟩
    · omega
theorem nodK_nn (r : List T) : (0 : Int) ≤ nodK r := by omega
end
set_option maxHeartbeats 8000000 in
theorem light_eq (R : Nat) (hR : 2000 ≤ R) (hR2 : R ≤ 9223372036854775808) : ∀ (d : Nat) (t : T) (n : Int), 0 ≤ n → n < 1000 → n + 2 ≤ (d : Int) → bigT R t → fewT R t →
    evalFn Tryz.prog cfg0 R d 60 [.tree (encT t), .tree (.int .i64 n)] = some (.tree (.int .i64 (lgT t n)), [[], []])
  | 0, t, n, h0, _, hd, _, _ => by omega
  | d + 1, t, n, h0, h1, hd, hb, hf => by
    have IH := light_eq R hR hR2 d
    obtain ⟨k, b, lg, l, s, m, kg, ks⟩ := t
    simp only [bigT] at hb
    simp only [fewT] at hf
    rw [evalFn_go _ Tryz.func60 (by unfold Tryz.f60; rfl) (by unfold Tryz.f60; decide) (Nat.le_of_ble_eq_true (by unfold Tryz.f60; rfl)) (by kernel_rfl)]
    have f0 := i_sub Tryz.prog 3 n 1 (by omega) (by omega)
    have ll := len23
    by_cases c1 : (l.length : Int) > 40
    · have hr : lgT (.mk k b lg l s m kg ks) n = -1 := by simp only [lgT]; rw [if_pos (.inl c1)]
      rw [hr]
      simp only [zaa, zab, zac, zad, zae, zaf, zag, zah, zai, zaj, zak, zal, zam, zan, zao, zap, zaq, zar, zas, zat, zau, zav, zaw, zax, zay, zaz, zba, zbb, zbc, zbd, zbe, zbf, zbg, zbh, zbi, zbj, zbk, zbl, zbm, zbn, zbo, zbp, zbq, Nat.reduceBEq, Bool.or_self, Bool.or_false, Bool.or_true, Bool.and_true, Bool.and_false, Bool.true_and, Bool.false_and, Option.isNone_none, Option.isNone_some, Option.isSome_some, Option.isSome_none, zbr, zbs, zbt, zbu, zbv, zbw, zbx, zby, zbz, zca, zcb, zcc, zcd, zce, zcf, zcg, zch, zci, zcj, zck, zcl, zcm, zcn, zco, zcp, zcq, zcr, zcs, zct, zcu, zcv, zcw, zcx, zcy, zcz, zda, zdb, zdc, zdd, zde, zdf, zdg, zdh, zdi, zdj, zdk, zdl, zdm, zdn, zdo, zdp, zdq, zdr, zds, Option.getD_some, Option.getD_none, zfg, zfh, zfi, zfj, zfk, zfl, zfm, zfn, Option.map_some, Option.map_none, Option.bind_some, List.map_cons, List.map_nil, List.cons_append, List.nil_append, ↓reduceIte, Nat.reduceEqDiff, Nat.reduceAdd, decide_true, decide_false, Bool.true_eq_false, Bool.false_eq_true, env0, List.getElem?_cons_zero, List.getElem?_cons_succ, zdt, zdu, zdv, zdw, zdx, zdy, zdz, zea, ia22, ld31, zeb, zec, zed, zee, zef, zeg, zeh, zei, zej, zek, zel, zem, zen, zeo, zep, fa_0, fa_1, zeq, bd_0, bd_2, zer, fd_1, zes, Nat.zero_add, zet, List.toList_toArray, len9, ix9, zeu, zev, zew, zex, zey, encT, cellsT, f0, faT_1, faT_2, faT_4, faN_1, ldT_2, ldT_4, ldT_l, ll, c1, Nat.reduceAdd]
      exact finish_i _ _ _ _ _ _ _ (by first | (simp only [zfn, ↓reduceIte, Nat.reduceEqDiff]; done) | (simp only [zfn, ↓reduceIte, Nat.reduceEqDiff]; rfl)) rfl
    by_cases c2 : (s.length : Int) > 500
    · have hr : lgT (.mk k b lg l s m kg ks) n = -1 := by simp only [lgT]; rw [if_pos (.inr c2)]
      rw [hr]
      simp only [zaa, zab, zac, zad, zae, zaf, zag, zah, zai, zaj, zak, zal, zam, zan, zao, zap, zaq, zar, zas, zat, zau, zav, zaw, zax, zay, zaz, zba, zbb, zbc, zbd, zbe, zbf, zbg, zbh, zbi, zbj, zbk, zbl, zbm, zbn, zbo, zbp, zbq, Nat.reduceBEq, Bool.or_self, Bool.or_false, Bool.or_true, Bool.and_true, Bool.and_false, Bool.true_and, Bool.false_and, Option.isNone_none, Option.isNone_some, Option.isSome_some, Option.isSome_none, zbr, zbs, zbt, zbu, zbv, zbw, zbx, zby, zbz, zca, zcb, zcc, zcd, zce, zcf, zcg, zch, zci, zcj, zck, zcl, zcm, zcn, zco, zcp, zcq, zcr, zcs, zct, zcu, zcv, zcw, zcx, zcy, zcz, zda, zdb, zdc, zdd, zde, zdf, zdg, zdh, zdi, zdj, zdk, zdl, zdm, zdn, zdo, zdp, zdq, zdr, zds, Option.getD_some, Option.getD_none, zfg, zfh, zfi, zfj, zfk, zfl, zfm, zfn, Option.map_some, Option.map_none, Option.bind_some, List.map_cons, List.map_nil, List.cons_append, List.nil_append, ↓reduceIte, Nat.reduceEqDiff, Nat.reduceAdd, decide_true, decide_false, Bool.true_eq_false, Bool.false_eq_true, env0, List.getElem?_cons_zero, List.getElem?_cons_succ, zdt, zdu, zdv, zdw, zdx, zdy, zdz, zea, ia22, ld31, zeb, zec, zed, zee, zef, zeg, zeh, zei, zej, zek, zel, zem, zen, zeo, zep, fa_0, fa_1, zeq, bd_0, bd_2, zer, fd_1, zes, Nat.zero_add, zet, List.toList_toArray, len9, ix9, zeu, zev, zew, zex, zey, encT, cellsT, f0, faT_1, faT_2, faT_4, faN_1, ldT_2, ldT_4, ldT_l, ll, c1, c2, Nat.reduceAdd]
      exact finish_i _ _ _ _ _ _ _ (by first | (simp only [zfn, ↓reduceIte, Nat.reduceEqDiff]; done) | (simp only [zfn, ↓reduceIte, Nat.reduceEqDiff]; rfl)) rfl
    have hr : lgT (.mk k b lg l s m kg ks) n = lgK ks (n - 1) := by simp only [lgT]; rw [if_neg (by omega)]
    rw [hr]
    simp only [zaa, zab, zac, zad, zae, zaf, zag, zah, zai, zaj, zak, zal, zam, zan, zao, zap, zaq, zar, zas, zat, zau, zav, zaw, zax, zay, zaz, zba, zbb, zbc, zbd, zbe, zbf, zbg, zbh, zbi, zbj, zbk, zbl, zbm, zbn, zbo, zbp, zbq, Nat.reduceBEq, Bool.or_self, Bool.or_false, Bool.or_true, Bool.and_true, Bool.and_false, Bool.true_and, Bool.false_and, Option.isNone_none, Option.isNone_some, Option.isSome_some, Option.isSome_none, zbr, zbs, zbt, zbu, zbv, zbw, zbx, zby, zbz, zca, zcb, zcc, zcd, zce, zcf, zcg, zch, zci, zcj, zck, zcl, zcm, zcn, zco, zcp, zcq, zcr, zcs, zct, zcu, zcv, zcw, zcx, zcy, zcz, zda, zdb, zdc, zdd, zde, zdf, zdg, zdh, zdi, zdj, zdk, zdl, zdm, zdn, zdo, zdp, zdq, zdr, zds, Option.getD_some, Option.getD_none, zfg, zfh, zfi, zfj, zfk, zfl, zfm, zfn, Option.map_some, Option.map_none, Option.bind_some, List.map_cons, List.map_nil, List.cons_append, List.nil_append, ↓reduceIte, Nat.reduceEqDiff, Nat.reduceAdd, decide_true, decide_false, Bool.true_eq_false, Bool.false_eq_true, env0, List.getElem?_cons_zero, List.getElem?_cons_succ, zdt, zdu, zdv, zdw, zdx, zdy, zdz, zea, ia22, ld31, zeb, zec, zed, zee, zef, zeg, zeh, zei, zej, zek, zel, zem, zen, zeo, zep, fa_0, fa_1, zeq, bd_0, bd_2, zer, fd_1, zes, Nat.zero_add, zet, List.toList_toArray, len9, ix9, zeu, zev, zew, zex, zey, encT, cellsT, f0, faT_1, faT_2, faT_4, faN_1, ldT_2, ldT_4, ldT_l, ll, c1, c2, Nat.reduceAdd, den_loop]
    refine loop_ends (X := Nat × Int) (fun x env s' => env 2 = .ptr 2 1 0 ∧ s' 2 = ⟨1, .buf (cellsT (.mk k b lg l s m kg ks))⟩ ∧ env 1 = .int .i64 x.2 ∧ env 5 = .int .i64 (x.1 : Int) ∧ x.1 ≤ ks.length ∧ -1 ≤ x.2 ∧ x.2 ≤ n - 1 ∧ lgK ks (n - 1) = lgK (ks.drop x.1) x.2) (fun x => (x.2 + 1).toNat) (fun _ => (.tree (.int .i64 (lgK ks (n - 1))), [[], []])) ?_ R (0, n - 1) _ _ (by simp only; omega) ⟨(by first | (simp only [zfn, ↓reduceIte, Nat.reduceEqDiff]; done) | (simp only [zfn, ↓reduceIte, Nat.reduceEqDiff]; rfl)), (by first | (simp only [zfn, ↓reduceIte, Nat.reduceEqDiff]; done) | (simp only [zfn, ↓reduceIte, Nat.reduceEqDiff]; rfl)), (by first | (simp only [zfn, ↓reduceIte, Nat.reduceEqDiff]; done) | (simp only [zfn, ↓reduceIte, Nat.reduceEqDiff]; rfl)), (by first | (simp only [zfn, ↓reduceIte, Nat.reduceEqDiff]; done) | (simp only [zfn, ↓reduceIte, Nat.reduceEqDiff]; rfl)), Nat.zero_le _, by simp only; omega, by simp only; omega, rfl⟩
    rintro rr ⟨i, v⟩ hrr ih2 env st ⟨e2, j2, e1, e5, hi, hv0, hv1, hk⟩
    simp only at e1 e5 hi hv0 hv1 hk hrr
    simp only [cellsT] at j2
    cases hdr : ks.drop i with
    | nil =>
      have hil : i = ks.length := by have := congrArg List.length hdr; simp only [List.length_drop, List.length_nil] at this; omega
      subst hil
      rw [hdr] at hk
      simp only [lgK] at hk
      rw [hk]
      have q1 : ¬ ((ks.length : Int) < (ks.length : Int)) := by omega
      simp only [zaa, zab, zac, zad, zae, zaf, zag, zah, zai, zaj, zak, zal, zam, zan, zao, zap, zaq, zar, zas, zat, zau, zav, zaw, zax, zay, zaz, zba, zbb, zbc, zbd, zbe, zbf, zbg, zbh, zbi, zbj, zbk, zbl, zbm, zbn, zbo, zbp, zbq, Nat.reduceBEq, Bool.or_self, Bool.or_false, Bool.or_true, Bool.and_true, Bool.and_false, Bool.true_and, Bool.false_and, Option.isNone_none, Option.isNone_some, Option.isSome_some, Option.isSome_none, zbr, zbs, zbt, zbu, zbv, zbw, zbx, zby, zbz, zca, zcb, zcc, zcd, zce, zcf, zcg, zch, zci, zcj, zck, zcl, zcm, zcn, zco, zcp, zcq, zcr, zcs, zct, zcu, zcv, zcw, zcx, zcy, zcz, zda, zdb, zdc, zdd, zde, zdf, zdg, zdh, zdi, zdj, zdk, zdl, zdm, zdn, zdo, zdp, zdq, zdr, zds, Option.getD_some, Option.getD_none, zfg, zfh, zfi, zfj, zfk, zfl, zfm, zfn, Option.map_some, Option.map_none, Option.bind_some, List.map_cons, List.map_nil, List.cons_append, List.nil_append, ↓reduceIte, Nat.reduceEqDiff, Nat.reduceAdd, decide_true, decide_false, Bool.true_eq_false, Bool.false_eq_true, zdt, zdu, zdv, zdw, zdx, zdy, zdz, zea, ia22, ld31, zeb, zec, zed, zee, zef, zeg, zeh, zei, zej, zek, zel, zem, zen, zeo, zep, fa_0, fa_1, zeq, bd_0, bd_2, zer, fd_1, zes, Nat.zero_add, e2, j2, e1, e5, faT_4, ldT_4, lenTk, q1]
      exact finish_i _ _ _ _ _ _ _ (by first | (simp only [zfn, ↓reduceIte, Nat.reduceEqDiff]; done) | (simp only [zfn, ↓reduceIte, Nat.reduceEqDiff]; rfl)) rfl
    | cons kid r =>
      have hil : i < ks.length := by have := congrArg List.length hdr; simp only [List.length_drop, List.length_cons] at this; omega
      have q1 : (i : Int) < (ks.length : Int) := by omega
      rw [hdr] at hk
      simp only [lgK] at hk
      by_cases q2 : v ≥ 0
      · rw [if_pos q2] at hk
        have hbk := bigK_at R ks i kid r hdr hb.2.2
        have hfk := fewK_at R ks i kid r hdr hf.2.2
        have cc := fun D st => callA_trees (cfg := cfg0) (d := D) (s := st) (f := 60) (vs := [encT kid, .int .i64 v]) rfl (IH kid v q2 (by omega) (by omega) hbk hfk)
        simp only [encT] at cc
        have ia := fun st => ia_K st ks (gr kg) i hil
        rw [hdr] at ia
        have ld := fun st => ld_K st kid r
        simp only [encT] at ld
        have f5 := i_add Tryz.prog 3 (i : Int) 1 (by omega) (by omega)
        have hl := lgT_lt kid v q2
        simp only [zaa, zab, zac, zad, zae, zaf, zag, zah, zai, zaj, zak, zal, zam, zan, zao, zap, zaq, zar, zas, zat, zau, zav, zaw, zax, zay, zaz, zba, zbb, zbc, zbd, zbe, zbf, zbg, zbh, zbi, zbj, zbk, zbl, zbm, zbn, zbo, zbp, zbq, Nat.reduceBEq, Bool.or_self, Bool.or_false, Bool.or_true, Bool.and_true, Bool.and_false, Bool.true_and, Bool.false_and, Option.isNone_none, Option.isNone_some, Option.isSome_some, Option.isSome_none, zbr, zbs, zbt, zbu, zbv, zbw, zbx, zby, zbz, zca, zcb, zcc, zcd, zce, zcf, zcg, zch, zci, zcj, zck, zcl, zcm, zcn, zco, zcp, zcq, zcr, zcs, zct, zcu, zcv, zcw, zcx, zcy, zcz, zda, zdb, zdc, zdd, zde, zdf, zdg, zdh, zdi, zdj, zdk, zdl, zdm, zdn, zdo, zdp, zdq, zdr, zds, Option.getD_some, Option.getD_none, zfg, zfh, zfi, zfj, zfk, zfl, zfm, zfn, Option.map_some, Option.map_none, Option.bind_some, List.map_cons, List.map_nil, List.cons_append, List.nil_append, ↓reduceIte, Nat.reduceEqDiff, Nat.reduceAdd, decide_true, decide_false, Bool.true_eq_false, Bool.false_eq_true, zdt, zdu, zdv, zdw, zdx, zdy, zdz, zea, ia22, ld31, zeb, zec, zed, zee, zef, zeg, zeh, zei, zej, zek, zel, zem, zen, zeo, zep, fa_0, fa_1, zeq, bd_0, bd_2, zer, fd_1, zes, Nat.zero_add, e2, j2, e1, e5, faT_4, ldT_4, lenTk, q1, q2, ia, ld, cc, f5]
        exact ih2 (i + 1, lgT kid v) _ _ (by simp only; omega) rfl ⟨(by first | (simp only [zfn, ↓reduceIte, Nat.reduceEqDiff, e2]; done) | (simp only [zfn, ↓reduceIte, Nat.reduceEqDiff, e2]; rfl)), by simp only [cellsT]; exact (by first | (simp only [zfn, ↓reduceIte, Nat.reduceEqDiff, j2]; done) | (simp only [zfn, ↓reduceIte, Nat.reduceEqDiff, j2]; rfl)), (by first | (simp only [zfn, ↓reduceIte, Nat.reduceEqDiff]; done) | (simp only [zfn, ↓reduceIte, Nat.reduceEqDiff]; rfl)), (by first | (simp only [zfn, ↓reduceIte, Nat.reduceEqDiff]; done) | (simp only [zfn, ↓reduceIte, Nat.reduceEqDiff]; rfl)), by simp only; omega, by simp only; omega, by simp only; omega, by simp only; rw [drop_next hdr]; exact hk⟩
      · rw [if_neg q2] at hk
        rw [hk]
        simp only [zaa, zab, zac, zad, zae, zaf, zag, zah, zai, zaj, zak, zal, zam, zan, zao, zap, zaq, zar, zas, zat, zau, zav, zaw, zax, zay, zaz, zba, zbb, zbc, zbd, zbe, zbf, zbg, zbh, zbi, zbj, zbk, zbl, zbm, zbn, zbo, zbp, zbq, Nat.reduceBEq, Bool.or_self, Bool.or_false, Bool.or_true, Bool.and_true, Bool.and_false, Bool.true_and, Bool.false_and, Option.isNone_none, Option.isNone_some, Option.isSome_some, Option.isSome_none, zbr, zbs, zbt, zbu, zbv, zbw, zbx, zby, zbz, zca, zcb, zcc, zcd, zce, zcf, zcg, zch, zci, zcj, zck, zcl, zcm, zcn, zco, zcp, zcq, zcr, zcs, zct, zcu, zcv, zcw, zcx, zcy, zcz, zda, zdb, zdc, zdd, zde, zdf, zdg, zdh, zdi, zdj, zdk, zdl, zdm, zdn, zdo, zdp, zdq, zdr, zds, Option.getD_some, Option.getD_none, zfg, zfh, zfi, zfj, zfk, zfl, zfm, zfn, Option.map_some, Option.map_none, Option.bind_some, List.map_cons, List.map_nil, List.cons_append, List.nil_append, ↓reduceIte, Nat.reduceEqDiff, Nat.reduceAdd, decide_true, decide_false, Bool.true_eq_false, Bool.false_eq_true, zdt, zdu, zdv, zdw, zdx, zdy, zdz, zea, ia22, ld31, zeb, zec, zed, zee, zef, zeg, zeh, zei, zej, zek, zel, zem, zen, zeo, zep, fa_0, fa_1, zeq, bd_0, bd_2, zer, fd_1, zes, Nat.zero_add, e2, j2, e1, e5, faT_4, ldT_4, lenTk, q1, q2]
        exact finish_i _ _ _ _ _ _ _ (by first | (simp only [zfn, ↓reduceIte, Nat.reduceEqDiff]; done) | (simp only [zfn, ↓reduceIte, Nat.reduceEqDiff]; rfl)) rfl
theorem Light_eq (R : Nat) (hR : 2000 ≤ R) (hR2 : R ≤ 9223372036854775808) (d : Nat) (t : T) (n : Int) (h0 : 0 ≤ n) (h1 : n < 1000) (hd : n + 2 ≤ (d : Int)) (hb : bigT R t) (hf : fewT R t) :
    evalFn Tryz.prog cfg0 R (d+1) 31 [.tree (encT t), .tree (.int .i64 n)] = some (.tree (.bool (decide (lgT t n ≥ 0))), [[], []]) := by
  rw [evalFn_go _ Tryz.func31 (by unfold Tryz.f31; rfl) (by unfold Tryz.f31; decide) (Nat.le_of_ble_eq_true (by unfold Tryz.f31; rfl)) (by kernel_rfl)]
  have cc := fun D st => callA_trees (cfg := cfg0) (d := D) (s := st) (f := 60) (vs := [encT t, .int .i64 n]) rfl (light_eq R hR hR2 d t n h0 h1 hd hb hf)
  simp only [encT] at cc
  simp only [zaa, zab, zac, zad, zae, zaf, zag, zah, zai, zaj, zak, zal, zam, zan, zao, zap, zaq, zar, zas, zat, zau, zav, zaw, zax, zay, zaz, zba, zbb, zbc, zbd, zbe, zbf, zbg, zbh, zbi, zbj, zbk, zbl, zbm, zbn, zbo, zbp, zbq, Nat.reduceBEq, Bool.or_self, Bool.or_false, Bool.or_true, Bool.and_true, Bool.and_false, Bool.true_and, Bool.false_and, Option.isNone_none, Option.isNone_some, Option.isSome_some, Option.isSome_none, zbr, zbs, zbt, zbu, zbv, zbw, zbx, zby, zbz, zca, zcb, zcc, zcd, zce, zcf, zcg, zch, zci, zcj, zck, zcl, zcm, zcn, zco, zcp, zcq, zcr, zcs, zct, zcu, zcv, zcw, zcx, zcy, zcz, zda, zdb, zdc, zdd, zde, zdf, zdg, zdh, zdi, zdj, zdk, zdl, zdm, zdn, zdo, zdp, zdq, zdr, zds, Option.getD_some, Option.getD_none, zfg, zfh, zfi, zfj, zfk, zfl, zfm, zfn, Option.map_some, Option.map_none, Option.bind_some, List.map_cons, List.map_nil, List.cons_append, List.nil_append, ↓reduceIte, Nat.reduceEqDiff, Nat.reduceAdd, decide_true, decide_false, Bool.true_eq_false, Bool.false_eq_true, env0, List.getElem?_cons_zero, List.getElem?_cons_succ, zdt, zdu, zdv, zdw, zdx, zdy, zdz, zea, ia22, ld31, zeb, zec, zed, zee, zef, zeg, zeh, zei, zej, zek, zel, zem, zen, zeo, zep, fa_0, fa_1, zeq, bd_0, bd_2, zer, fd_1, zes, Nat.zero_add, encT, ldT_u, cc]
  exact finish_b _ _ _ _ _ _ _ (by first | (simp only [zfn, ↓reduceIte, Nat.reduceEqDiff]; done) | (simp only [zfn, ↓reduceIte, Nat.reduceEqDiff]; rfl)) rfl

/-! ### Items -/
def itT : Nat → T → List T → Option (List T)
  | 0, _, _ => none
  | r + 1, t, acc => if kindT t = 3 then some acc else if kindT t = 4 then (match kidsT t with | [h, u] => itT r u (acc ++ [h]) | _ => none) else none
theorem itT_mk (r : Nat) (k : Int) (b : Bool) (lg : Gk) (l : List Nat) (s : List UInt8) (n : Int) (kg : Gk) (ks acc : List T) : itT (r + 1) (.mk k b lg l s n kg ks) acc = if k = 3 then some acc else if k = 4 then (match ks with | [h, u] => itT r u (acc ++ [h]) | _ => none) else none := rfl
def itemsT (t : T) : Option (List T) := itT 2001 t []
def itemsV : Option (List T) → AV
  | some l => .tup [.sl (cellsK l) l.length (gr (kgOf l)), .bool true]
  | none => .tup [.sl [] 0 .nil, .bool false]
theorem finish_Kb (k : Bool) (xs : List Arg) (t t' d : Nat) (x : AV) (us : List T) (env : Env) (s : St) (b : Bool) (os : List (List AV)) (hv : env t = x) (hA : Ap s d x us) (hb : env t' = .bool b) (ho : outsA s 0 xs = some os) :
    finishP Tryz.prog k xs #[.tmp t, .tmp t'] env s = some (.tree (.tup [.sl (cellsK us) us.length (gr (kgOf us)), .bool b]), os) := by
  rw [finishP_t2]
  rcases hA with ⟨rfl, rfl⟩ | ⟨hu, tt, rfl, _⟩
  · simp [finish, hv, hb, settleL, settle, ho, kgOf, gr, cellsK]
  · simp [finish, hv, hb, settleL, settle, ho, kgOf, hu, gr]
set_option maxHeartbeats 8000000 in
theorem items_eq (R : Nat) (hR : 2010 ≤ R) (d : Nat) (t0 : T) : evalFn Tryz.prog cfg0 R (d+1) 53 [.tree (encT t0)] = some (.tree (itemsV (itemsT t0)), [[]]) := by
  rw [evalFn_go _ Tryz.func53 (by unfold Tryz.f53; rfl) (by unfold Tryz.f53; decide) (Nat.le_of_ble_eq_true (by unfold Tryz.f53; rfl)) (by kernel_rfl)]
  simp only [zaa, zab, zac, zad, zae, zaf, zag, zah, zai, zaj, zak, zal, zam, zan, zao, zap, zaq, zar, zas, zat, zau, zav, zaw, zax, zay, zaz, zba, zbb, zbc, zbd, zbe, zbf, zbg, zbh, zbi, zbj, zbk, zbl, zbm, zbn, zbo, zbp, zbq, Nat.reduceBEq, Bool.or_self, Bool.or_false, Bool.or_true, Bool.and_true, Bool.and_false, Bool.true_and, Bool.false_and, Option.isNone_none, Option.isNone_some, Option.isSome_some, Option.isSome_none, zbr, zbs, zbt, zbu, zbv, zbw, zbx, zby, zbz, zca, zcb, zcc, zcd, zce, zcf, zcg, zch, zci, zcj, zck, zcl, zcm, zcn, zco, zcp, zcq, zcr, zcs, zct, zcu, zcv, zcw, zcx, zcy, zcz, zda, zdb, zdc, zdd, zde, zdf, zdg, zdh, zdi, zdj, zdk, zdl, zdm, zdn, zdo, zdp, zdq, zdr, zds, Option.getD_some, Option.getD_none, zfg, zfh, zfi, zfj, zfk, zfl, zfm, zfn, Option.map_some, Option.map_none, Option.bind_some, List.map_cons, List.map_nil, List.cons_append, List.nil_append, ↓reduceIte, Nat.reduceEqDiff, Nat.reduceAdd, decide_true, decide_false, Bool.true_eq_false, Bool.false_eq_true, env0, List.getElem?_cons_zero, List.getElem?_cons_succ, zed, zee, zef, zeg, zeh, zei, zej, zek, zel, zem, zen, zeo, zep, fa_0, fa_1, zeq, bd_0, bd_2, zer, fd_1, zes, Nat.zero_add, encT, den_loop]
  refine loop_ends (X := T × List T) (fun x env s => env 1 = .ptr 1 1 0 ∧ s 1 = ⟨1, .buf (cellsT x.1)⟩ ∧ Ap s 29 (env 4) x.2 ∧ x.2.length ≤ 2001 ∧ itT (2001 - x.2.length) x.1 x.2 = itemsT t0) (fun x => 2001 - x.2.length) (fun _ => (.tree (itemsV (itemsT t0)), [[]])) ?_ R (t0, []) _ _ (by simp only [List.length_nil]; omega) ⟨(by first | (simp only [zfn, ↓reduceIte, Nat.reduceEqDiff]; done) | (simp only [zfn, ↓reduceIte, Nat.reduceEqDiff]; rfl)), (by first | (simp only [zfn, ↓reduceIte, Nat.reduceEqDiff]; done) | (simp only [zfn, ↓reduceIte, Nat.reduceEqDiff]; rfl)), .inl ⟨rfl, (by first | (simp only [zfn, ↓reduceIte, Nat.reduceEqDiff]; done) | (simp only [zfn, ↓reduceIte, Nat.reduceEqDiff]; rfl))⟩, by simp, rfl⟩
  rintro rd ⟨t, acc⟩ hrd ih env st ⟨e1, j1, ap, hl, hit⟩
  simp only at j1 ap hl hit hrd
  rw [← hit]
  generalize h4 : env 4 = x4 at ap
  have la : ∀ st, lenA Tryz.prog 22 st x4 = some (.int .i64 (acc.length : Int)) := fun st => by
    rcases ap with ⟨rfl, rfl⟩ | ⟨_, tt, rfl, _⟩
    · exact lenTk st [] 0 .nil
    · exact lenTk st _ _ _
  by_cases q1 : (acc.length : Int) ≤ 2000
  rotate_left
  · have h0 : 2001 - acc.length = 0 := by omega
    rw [h0, itT]
    simp only [zaa, zab, zac, zad, zae, zaf, zag, zah, zai, zaj, zak, zal, zam, zan, zao, zap, zaq, zar, zas, zat, zau, zav, zaw, zax, zay, zaz, zba, zbb, zbc, zbd, zbe, zbf, zbg, zbh, zbi, zbj, zbk, zbl, zbm, zbn, zbo, zbp, zbq, Nat.reduceBEq, Bool.or_self, Bool.or_false, Bool.or_true, Bool.and_true, Bool.and_false, Bool.true_and, Bool.false_and, Option.isNone_none, Option.isNone_some, Option.isSome_some, Option.isSome_none, zbr, zbs, zbt, zbu, zbv, zbw, zbx, zby, zbz, zca, zcb, zcc, zcd, zce, zcf, zcg, zch, zci, zcj, zck, zcl, zcm, zcn, zco, zcp, zcq, zcr, zcs, zct, zcu, zcv, zcw, zcx, zcy, zcz, zda, zdb, zdc, zdd, zde, zdf, zdg, zdh, zdi, zdj, zdk, zdl, zdm, zdn, zdo, zdp, zdq, zdr, zds, Option.getD_some, Option.getD_none, zfg, zfh, zfi, zfj, zfk, zfl, zfm, zfn, Option.map_some, Option.map_none, Option.bind_some, List.map_cons, List.map_nil, List.cons_append, List.nil_append, ↓reduceIte, Nat.reduceEqDiff, Nat.reduceAdd, decide_true, decide_false, Bool.true_eq_false, Bool.false_eq_true, zdt, zdu, zdv, zdw, zdx, zdy, zdz, zea, ia22, ld31, zeb, zec, zed, zee, zef, zeg, zeh, zei, zej, zek, zel, zem, zen, zeo, zep, fa_0, fa_1, zeq, bd_0, bd_2, zer, fd_1, zes, Nat.zero_add, e1, h4, la, q1]
    exact finish_Kb _ _ _ _ 29 _ [] _ _ _ _ (by first | (simp only [zfn, ↓reduceIte, Nat.reduceEqDiff]; done) | (simp only [zfn, ↓reduceIte, Nat.reduceEqDiff]; rfl)) (.inl ⟨rfl, rfl⟩) (by first | (simp only [zfn, ↓reduceIte, Nat.reduceEqDiff]; done) | (simp only [zfn, ↓reduceIte, Nat.reduceEqDiff]; rfl)) rfl
  obtain ⟨r, hr⟩ : ∃ r, 2001 - acc.length = r + 1 := ⟨2000 - acc.length, by omega⟩
  rw [hr] at hit ⊢
  obtain ⟨k, b, lg, l, s, m, kg, ks⟩ := t
  simp only [cellsT] at j1
  rw [itT_mk] at hit ⊢
  by_cases k3 : k = 3
  · rw [if_pos k3]
    have q3 : (k == 3) = true := by rw [k3]; rfl
    simp only [zaa, zab, zac, zad, zae, zaf, zag, zah, zai, zaj, zak, zal, zam, zan, zao, zap, zaq, zar, zas, zat, zau, zav, zaw, zax, zay, zaz, zba, zbb, zbc, zbd, zbe, zbf, zbg, zbh, zbi, zbj, zbk, zbl, zbm, zbn, zbo, zbp, zbq, Nat.reduceBEq, Bool.or_self, Bool.or_false, Bool.or_true, Bool.and_true, Bool.and_false, Bool.true_and, Bool.false_and, Option.isNone_none, Option.isNone_some, Option.isSome_some, Option.isSome_none, zbr, zbs, zbt, zbu, zbv, zbw, zbx, zby, zbz, zca, zcb, zcc, zcd, zce, zcf, zcg, zch, zci, zcj, zck, zcl, zcm, zcn, zco, zcp, zcq, zcr, zcs, zct, zcu, zcv, zcw, zcx, zcy, zcz, zda, zdb, zdc, zdd, zde, zdf, zdg, zdh, zdi, zdj, zdk, zdl, zdm, zdn, zdo, zdp, zdq, zdr, zds, Option.getD_some, Option.getD_none, zfg, zfh, zfi, zfj, zfk, zfl, zfm, zfn, Option.map_some, Option.map_none, Option.bind_some, List.map_cons, List.map_nil, List.cons_append, List.nil_append, ↓reduceIte, Nat.reduceEqDiff, Nat.reduceAdd, decide_true, decide_false, Bool.true_eq_false, Bool.false_eq_true, zdt, zdu, zdv, zdw, zdx, zdy, zdz, zea, ia22, ld31, zeb, zec, zed, zee, zef, zeg, zeh, zei, zej, zek, zel, zem, zen, zeo, zep, fa_0, fa_1, zeq, bd_0, bd_2, zer, fd_1, zes, Nat.zero_add, e1, j1, h4, la, q1, faT_0, ldT_0, i_eqlV, q3]
    exact finish_Kb _ _ _ _ 29 x4 acc _ _ _ _ (by first | (simp only [zfn, ↓reduceIte, Nat.reduceEqDiff]; done) | (simp only [zfn, ↓reduceIte, Nat.reduceEqDiff]; rfl)) ap (by first | (simp only [zfn, ↓reduceIte, Nat.reduceEqDiff]; done) | (simp only [zfn, ↓reduceIte, Nat.reduceEqDiff]; rfl)) rfl
  have q3 : (k == 3) = false := beq_eq_false_iff_ne.mpr k3
  rw [if_neg k3] at hit ⊢
  by_cases k4 : k = 4
  rotate_left
  · rw [if_neg k4]
    have q4 : (k != 4) = true := bne_iff_ne.mpr k4
    simp only [zaa, zab, zac, zad, zae, zaf, zag, zah, zai, zaj, zak, zal, zam, zan, zao, zap, zaq, zar, zas, zat, zau, zav, zaw, zax, zay, zaz, zba, zbb, zbc, zbd, zbe, zbf, zbg, zbh, zbi, zbj, zbk, zbl, zbm, zbn, zbo, zbp, zbq, Nat.reduceBEq, Bool.or_self, Bool.or_false, Bool.or_true, Bool.and_true, Bool.and_false, Bool.true_and, Bool.false_and, Option.isNone_none, Option.isNone_some, Option.isSome_some, Option.isSome_none, zbr, zbs, zbt, zbu, zbv, zbw, zbx, zby, zbz, zca, zcb, zcc, zcd, zce, zcf, zcg, zch, zci, zcj, zck, zcl, zcm, zcn, zco, zcp, zcq, zcr, zcs, zct, zcu, zcv, zcw, zcx, zcy, zcz, zda, zdb, zdc, zdd, zde, zdf, zdg, zdh, zdi, zdj, zdk, zdl, zdm, zdn, zdo, zdp, zdq, zdr, zds, Option.getD_some, Option.getD_none, zfg, zfh, zfi, zfj, zfk, zfl, zfm, zfn, Option.map_some, Option.map_none, Option.bind_some, List.map_cons, List.map_nil, List.cons_append, List.nil_append, ↓reduceIte, Nat.reduceEqDiff, Nat.reduceAdd, decide_true, decide_false, Bool.true_eq_false, Bool.false_eq_true, zdt, zdu, zdv, zdw, zdx, zdy, zdz, zea, ia22, ld31, zeb, zec, zed, zee, zef, zeg, zeh, zei, zej, zek, zel, zem, zen, zeo, zep, fa_0, fa_1, zeq, bd_0, bd_2, zer, fd_1, zes, Nat.zero_add, e1, j1, h4, la, q1, faT_0, ldT_0, i_eqlV, i_neqV, q3, q4]
    exact finish_Kb _ _ _ _ 29 _ [] _ _ _ _ (by first | (simp only [zfn, ↓reduceIte, Nat.reduceEqDiff]; done) | (simp only [zfn, ↓reduceIte, Nat.reduceEqDiff]; rfl)) (.inl ⟨rfl, rfl⟩) (by first | (simp only [zfn, ↓reduceIte, Nat.reduceEqDiff]; done) | (simp only [zfn, ↓reduceIte, Nat.reduceEqDiff]; rfl)) rfl
  have q4 : (k != 4) = false := by rw [k4]; rfl
  rw [if_pos k4] at hit ⊢
  by_cases k2 : ks.length = 2
  rotate_left
  · have hn : (match ks with | [h, u] => itT r u (acc ++ [h]) | _ => none) = none := by
      match ks, k2 with
      | [], _ => rfl
      | [_], _ => rfl
      | [_, _], h => exact absurd rfl h
      | _ :: _ :: _ :: _, _ => rfl
    rw [hn]
    have q5 : ((ks.length : Int) != 2) = true := bne_iff_ne.mpr (by omega)
    simp only [zaa, zab, zac, zad, zae, zaf, zag, zah, zai, zaj, zak, zal, zam, zan, zao, zap, zaq, zar, zas, zat, zau, zav, zaw, zax, zay, zaz, zba, zbb, zbc, zbd, zbe, zbf, zbg, zbh, zbi, zbj, zbk, zbl, zbm, zbn, zbo, zbp, zbq, Nat.reduceBEq, Bool.or_self, Bool.or_false, Bool.or_true, Bool.and_true, Bool.and_false, Bool.true_and, Bool.false_and, Option.isNone_none, Option.isNone_some, Option.isSome_some, Option.isSome_none, zbr, zbs, zbt, zbu, zbv, zbw, zbx, zby, zbz, zca, zcb, zcc, zcd, zce, zcf, zcg, zch, zci, zcj, zck, zcl, zcm, zcn, zco, zcp, zcq, zcr, zcs, zct, zcu, zcv, zcw, zcx, zcy, zcz, zda, zdb, zdc, zdd, zde, zdf, zdg, zdh, zdi, zdj, zdk, zdl, zdm, zdn, zdo, zdp, zdq, zdr, zds, Option.getD_some, Option.getD_none, zfg, zfh, zfi, zfj, zfk, zfl, zfm, zfn, Option.map_some, Option.map_none, Option.bind_some, List.map_cons, List.map_nil, List.cons_append, List.nil_append, ↓reduceIte, Nat.reduceEqDiff, Nat.reduceAdd, decide_true, decide_false, Bool.true_eq_false, Bool.false_eq_true, zdt, zdu, zdv, zdw, zdx, zdy, zdz, zea, ia22, ld31, zeb, zec, zed, zee, zef, zeg, zeh, zei, zej, zek, zel, zem, zen, zeo, zep, fa_0, fa_1, zeq, bd_0, bd_2, zer, fd_1, zes, Nat.zero_add, e1, j1, h4, la, q1, faT_0, ldT_0, faT_4, ldT_4, lenTk, i_eqlV, i_neqV, q3, q4, q5]
    exact finish_Kb _ _ _ _ 29 _ [] _ _ _ _ (by first | (simp only [zfn, ↓reduceIte, Nat.reduceEqDiff]; done) | (simp only [zfn, ↓reduceIte, Nat.reduceEqDiff]; rfl)) (.inl ⟨rfl, rfl⟩) (by first | (simp only [zfn, ↓reduceIte, Nat.reduceEqDiff]; done) | (simp only [zfn, ↓reduceIte, Nat.reduceEqDiff]; rfl)) rfl
  obtain ⟨h, u, rfl⟩ : ∃ h u, ks = [h, u] := by
    match ks, k2 with
    | [h, u], _ => exact ⟨h, u, rfl⟩
  simp only at hit ⊢
  have q5 : (((2 : Nat) : Int) != 2) = false := rfl
  obtain ⟨x', s', a1, a2, a3⟩ := ap.push (by omega) h
  have i0 : ∀ st, indexAddrA Tryz.prog 22 st (.sl (cellsK [h, u]) 2 (gr kg)) (.int .i64 0) = some (.rptr (cellsK [h, u])) := fun st => ia_K st [h, u] (gr kg) 0 (by simp)
  have i1 : ∀ st, indexAddrA Tryz.prog 22 st (.sl (cellsK [h, u]) 2 (gr kg)) (.int .i64 1) = some (.rptr (cellsK [u])) := fun st => ia_K st [h, u] (gr kg) 1 (by simp)
  have l0 := fun st => ld_K st h [u]
  have l1 := fun st => ld_K st u []
  simp only [encT] at l0 l1
  have bs := fun (q : Bool) (d' : Option Tmp) (ty : TypeId) (pos : String) (af : Array Edge) (g : Option (Nat × Bool)) (t : Nat) (env : Env) (s : St) (x : Operand) (hx : ev env x = .agg (cellsT h)) => opA_bs1 (evalFn Tryz.prog cfg0 R d) q d' ty pos af g t env s x _ hx
  have j1' : s' 1 = ⟨1, .buf [.int .i64 k, .bool b, encL lg l, .str s, .int .i64 m, .sl (cellsK [h, u]) 2 (gr kg)]⟩ := by rw [a3 1 (by decide)]; exact j1
  simp only [List.length_cons, List.length_nil, Nat.zero_add, Nat.reduceAdd] at j1
  simp only [zaa, zab, zac, zad, zae, zaf, zag, zah, zai, zaj, zak, zal, zam, zan, zao, zap, zaq, zar, zas, zat, zau, zav, zaw, zax, zay, zaz, zba, zbb, zbc, zbd, zbe, zbf, zbg, zbh, zbi, zbj, zbk, zbl, zbm, zbn, zbo, zbp, zbq, Nat.reduceBEq, Bool.or_self, Bool.or_false, Bool.or_true, Bool.and_true, Bool.and_false, Bool.true_and, Bool.false_and, Option.isNone_none, Option.isNone_some, Option.isSome_some, Option.isSome_none, zbr, zbs, zbt, zbu, zbv, zbw, zbx, zby, zbz, zca, zcb, zcc, zcd, zce, zcf, zcg, zch, zci, zcj, zck, zcl, zcm, zcn, zco, zcp, zcq, zcr, zcs, zct, zcu, zcv, zcw, zcx, zcy, zcz, zda, zdb, zdc, zdd, zde, zdf, zdg, zdh, zdi, zdj, zdk, zdl, zdm, zdn, zdo, zdp, zdq, zdr, zds, Option.getD_some, Option.getD_none, zfg, zfh, zfi, zfj, zfk, zfl, zfm, zfn, Option.map_some, Option.map_none, Option.bind_some, List.map_cons, List.map_nil, List.cons_append, List.nil_append, ↓reduceIte, Nat.reduceEqDiff, Nat.reduceAdd, decide_true, decide_false, Bool.true_eq_false, Bool.false_eq_true, zdt, zdu, zdv, zdw, zdx, zdy, zdz, zea, ia22, ld31, zeb, zec, zed, zee, zef, zeg, zeh, zei, zej, zek, zel, zem, zen, zeo, zep, fa_0, fa_1, zeq, bd_0, bd_2, zer, fd_1, zes, Nat.zero_add, e1, j1, h4, la, q1, faT_0, ldT_0, faT_4, ldT_4, lenTk, i_eqlV, i_neqV, q3, q4, q5, i0, l0]
  rw [bs _ _ _ _ _ _ _ _ _ _ (by first | (simp only [zfn, ↓reduceIte, Nat.reduceEqDiff, zfi]; done) | (simp only [zfn, ↓reduceIte, Nat.reduceEqDiff, zfi]; rfl))]
  simp only [zaa, zab, zac, zad, zae, zaf, zag, zah, zai, zaj, zak, zal, zam, zan, zao, zap, zaq, zar, zas, zat, zau, zav, zaw, zax, zay, zaz, zba, zbb, zbc, zbd, zbe, zbf, zbg, zbh, zbi, zbj, zbk, zbl, zbm, zbn, zbo, zbp, zbq, Nat.reduceBEq, Bool.or_self, Bool.or_false, Bool.or_true, Bool.and_true, Bool.and_false, Bool.true_and, Bool.false_and, Option.isNone_none, Option.isNone_some, Option.isSome_some, Option.isSome_none, zbr, zbs, zbt, zbu, zbv, zbw, zbx, zby, zbz, zca, zcb, zcc, zcd, zce, zcf, zcg, zch, zci, zcj, zck, zcl, zcm, zcn, zco, zcp, zcq, zcr, zcs, zct, zcu, zcv, zcw, zcx, zcy, zcz, zda, zdb, zdc, zdd, zde, zdf, zdg, zdh, zdi, zdj, zdk, zdl, zdm, zdn, zdo, zdp, zdq, zdr, zds, Option.getD_some, Option.getD_none, zfg, zfh, zfi, zfj, zfk, zfl, zfm, zfn, Option.map_some, Option.map_none, Option.bind_some, List.map_cons, List.map_nil, List.cons_append, List.nil_append, ↓reduceIte, Nat.reduceEqDiff, Nat.reduceAdd, decide_true, decide_false, Bool.true_eq_false, Bool.false_eq_true, zdt, zdu, zdv, zdw, zdx, zdy, zdz, zea, ia22, ld31, zeb, zec, zed, zee, zef, zeg, zeh, zei, zej, zek, zel, zem, zen, zeo, zep, fa_0, fa_1, zeq, bd_0, bd_2, zer, fd_1, zes, Nat.zero_add, a1, e1, j1', h4, faT_4, ldT_4, i1, l1, st_Tt, stT_6]
  have ha := a2
  rw [hit]
  refine ih (u, acc ++ [h]) _ _ (by simp; omega) rfl ?_
  refine ⟨(by first | (simp only [zfn, ↓reduceIte, Nat.reduceEqDiff, e1]; done) | (simp only [zfn, ↓reduceIte, Nat.reduceEqDiff, e1]; rfl)), (by first | (simp only [zfn, ↓reduceIte, Nat.reduceEqDiff]; done) | (simp only [zfn, ↓reduceIte, Nat.reduceEqDiff]; rfl)), ?_, by simp; omega, ?_⟩
  · rcases ha with ⟨g1, _⟩ | ⟨g1, tt, g2, g3⟩
    · exact absurd g1 (by simp)
    · exact .inr ⟨g1, tt, g2, by rw [upd_ne _ _ (by decide)]; exact g3⟩
  · simp only [List.length_append, List.length_cons, List.length_nil]
    rw [show 2001 - (acc.length + (0 + 1)) = r by omega]
    exact hit
end Go.Ab

/- How many words a term takes. Conditions: terms that are lean. -/
namespace Go.Ab
open Go.Proofs
set_option maxRecDepth 100000
set_option linter.unusedSimpArgs false

end Go.Ab

/- relictref03.Same, walked. Conditions: so many limbs, nodes at most. -/
namespace Go.Ab
open Go.Proofs
set_option maxRecDepth 100000
set_option linter.unusedSimpArgs false

theorem b_neqV (a b : Bool) : binA Tryz.prog .neq 4 (.bool a) (.bool b) = some (.bool (!(a == b))) := bool_neq 4 tk4 a b
theorem rsameNum_eq (n d : Nat) (b1 b2 : Bool) (b b' : Gk) (l m : List Nat) (hn : l.length < n) (hk : l.length ≤ 1000000) : evalFn Tryz.prog cfg0 n (d+1) 43 [.tree (encA b1 b l), .tree (encA b2 b' m)] = some (.tree (.bool (decide (b1 = b2) && decide (l = m))), [[], []]) := by
  rw [evalFn_go _ Tryz.func43 (by unfold Tryz.f43; rfl) (by unfold Tryz.f43; decide) (Nat.le_of_ble_eq_true (by unfold Tryz.f43; rfl)) (by kernel_rfl)]
  by_cases hb : b1 = b2
  rotate_left
  · have p0 : (b1 == b2) = false := beq_eq_false_iff_ne.mpr hb
    rw [decide_eq_false hb, Bool.false_and]
    simp only [zaa, zab, zac, zad, zae, zaf, zag, zah, zai, zaj, zak, zal, zam, zan, zao, zap, zaq, zar, zas, zat, zau, zav, zaw, zax, zay, zaz, zba, zbb, zbc, zbd, zbe, zbf, zbg, zbh, zbi, zbj, zbk, zbl, zbm, zbn, zbo, zbp, zbq, Nat.reduceBEq, Bool.or_self, Bool.or_false, Bool.or_true, Bool.and_true, Bool.and_false, Bool.true_and, Bool.false_and, Option.isNone_none, Option.isNone_some, Option.isSome_some, Option.isSome_none, zbr, zbs, zbt, zbu, zbv, zbw, zbx, zby, zbz, zca, zcb, zcc, zcd, zce, zcf, zcg, zch, zci, zcj, zck, zcl, zcm, zcn, zco, zcp, zcq, zcr, zcs, zct, zcu, zcv, zcw, zcx, zcy, zcz, zda, zdb, zdc, zdd, zde, zdf, zdg, zdh, zdi, zdj, zdk, zdl, zdm, zdn, zdo, zdp, zdq, zdr, zds, Option.getD_some, Option.getD_none, zfg, zfh, zfi, zfj, zfk, zfl, zfm, zfn, Option.map_some, Option.map_none, Option.bind_some, List.map_cons, List.map_nil, List.cons_append, List.nil_append, ↓reduceIte, Nat.reduceEqDiff, Nat.reduceAdd, decide_true, decide_false, Bool.true_eq_false, Bool.false_eq_true, env0, List.getElem?_cons_zero, List.getElem?_cons_succ, zdt, zdu, zdv, zdw, zdx, zdy, zdz, zea, ia22, ld31, zeb, zec, zed, zee, zef, zeg, zeh, zei, zej, zek, zel, zem, zen, zeo, zep, fa_0, fa_1, zeq, bd_0, bd_2, zer, fd_1, zes, Nat.zero_add, encA, b_neqV, p0, Bool.not_false]
    exact finish_b _ _ _ _ _ _ _ (by first | (simp only [zfn, ↓reduceIte, Nat.reduceEqDiff]; done) | (simp only [zfn, ↓reduceIte, Nat.reduceEqDiff]; rfl)) rfl
  have p0 : (b1 == b2) = true := beq_iff_eq.mpr hb
  rw [decide_eq_true hb, Bool.true_and]
  by_cases hlm : l.length = m.length
  · have p1 : ((l.length : Int) != (m.length : Int)) = false := by rw [hlm]; exact bne_self_eq_false _
    simp only [zaa, zab, zac, zad, zae, zaf, zag, zah, zai, zaj, zak, zal, zam, zan, zao, zap, zaq, zar, zas, zat, zau, zav, zaw, zax, zay, zaz, zba, zbb, zbc, zbd, zbe, zbf, zbg, zbh, zbi, zbj, zbk, zbl, zbm, zbn, zbo, zbp, zbq, Nat.reduceBEq, Bool.or_self, Bool.or_false, Bool.or_true, Bool.and_true, Bool.and_false, Bool.true_and, Bool.false_and, Option.isNone_none, Option.isNone_some, Option.isSome_some, Option.isSome_none, zbr, zbs, zbt, zbu, zbv, zbw, zbx, zby, zbz, zca, zcb, zcc, zcd, zce, zcf, zcg, zch, zci, zcj, zck, zcl, zcm, zcn, zco, zcp, zcq, zcr, zcs, zct, zcu, zcv, zcw, zcx, zcy, zcz, zda, zdb, zdc, zdd, zde, zdf, zdg, zdh, zdi, zdj, zdk, zdl, zdm, zdn, zdo, zdp, zdq, zdr, zds, Option.getD_some, Option.getD_none, zfg, zfh, zfi, zfj, zfk, zfl, zfm, zfn, Option.map_some, Option.map_none, Option.bind_some, List.map_cons, List.map_nil, List.cons_append, List.nil_append, ↓reduceIte, Nat.reduceEqDiff, Nat.reduceAdd, decide_true, decide_false, Bool.true_eq_false, Bool.false_eq_true, env0, List.getElem?_cons_zero, List.getElem?_cons_succ, zdt, zdu, zdv, zdw, zdx, zdy, zdz, zea, ia22, ld31, zeb, zec, zed, zee, zef, zeg, zeh, zei, zej, zek, zel, zem, zen, zeo, zep, fa_0, fa_1, zeq, bd_0, bd_2, zer, fd_1, zes, Nat.zero_add, encA, b_neqV, p0, Bool.not_true, p1, den_loop]
    refine loop_ends (X := Nat) (fun i env s => env 2 = .ptr 2 1 0 ∧ env 3 = .ptr 3 1 0 ∧ s 2 = ⟨1, .buf [.bool b1, encL b l]⟩ ∧ s 3 = ⟨1, .buf [.bool b2, encL b' m]⟩ ∧ env 5 = .int .i64 (i : Int) ∧ i ≤ l.length ∧ (l.drop i = m.drop i ↔ l = m)) (fun i => l.length - i) (fun _ => (.tree (.bool (decide (l = m))), [[], []])) ?_ n 0 _ _ (by omega) ⟨(by first | (simp only [zfn, ↓reduceIte, Nat.reduceEqDiff]; done) | (simp only [zfn, ↓reduceIte, Nat.reduceEqDiff]; rfl)), (by first | (simp only [zfn, ↓reduceIte, Nat.reduceEqDiff]; done) | (simp only [zfn, ↓reduceIte, Nat.reduceEqDiff]; rfl)), (by first | (simp only [zfn, ↓reduceIte, Nat.reduceEqDiff]; done) | (simp only [zfn, ↓reduceIte, Nat.reduceEqDiff]; rfl)), (by first | (simp only [zfn, ↓reduceIte, Nat.reduceEqDiff]; done) | (simp only [zfn, ↓reduceIte, Nat.reduceEqDiff]; rfl)), (by first | (simp only [zfn, ↓reduceIte, Nat.reduceEqDiff]; done) | (simp only [zfn, ↓reduceIte, Nat.reduceEqDiff]; rfl)), Nat.zero_le _, Iff.rfl⟩
    intro k i hx ih env s ⟨h0, h1, j0, j1, h5, hi, hd⟩
    by_cases hp : i = l.length
    · have e : l = m := by
        rw [← hd, hp, List.drop_length, hlm, List.drop_length]
      rw [decide_eq_true e]
      have q1 : ¬ ((i : Int) < (l.length : Int)) := by omega
      simp only [zaa, zab, zac, zad, zae, zaf, zag, zah, zai, zaj, zak, zal, zam, zan, zao, zap, zaq, zar, zas, zat, zau, zav, zaw, zax, zay, zaz, zba, zbb, zbc, zbd, zbe, zbf, zbg, zbh, zbi, zbj, zbk, zbl, zbm, zbn, zbo, zbp, zbq, Nat.reduceBEq, Bool.or_self, Bool.or_false, Bool.or_true, Bool.and_true, Bool.and_false, Bool.true_and, Bool.false_and, Option.isNone_none, Option.isNone_some, Option.isSome_some, Option.isSome_none, zbr, zbs, zbt, zbu, zbv, zbw, zbx, zby, zbz, zca, zcb, zcc, zcd, zce, zcf, zcg, zch, zci, zcj, zck, zcl, zcm, zcn, zco, zcp, zcq, zcr, zcs, zct, zcu, zcv, zcw, zcx, zcy, zcz, zda, zdb, zdc, zdd, zde, zdf, zdg, zdh, zdi, zdj, zdk, zdl, zdm, zdn, zdo, zdp, zdq, zdr, zds, Option.getD_some, Option.getD_none, zfg, zfh, zfi, zfj, zfk, zfl, zfm, zfn, Option.map_some, Option.map_none, Option.bind_some, List.map_cons, List.map_nil, List.cons_append, List.nil_append, ↓reduceIte, Nat.reduceEqDiff, Nat.reduceAdd, decide_true, decide_false, Bool.true_eq_false, Bool.false_eq_true, zdt, zdu, zdv, zdw, zdx, zdy, zdz, zea, ia22, ld31, zeb, zec, zed, zee, zef, zeg, zeh, zei, zej, zek, zel, zem, zen, zeo, zep, fa_0, fa_1, zeq, bd_0, bd_2, zer, fd_1, zes, Nat.zero_add, h0, h1, j0, j1, h5, q1]
      exact finish_b _ _ _ _ _ _ _ (by first | (simp only [zfn, ↓reduceIte, Nat.reduceEqDiff]; done) | (simp only [zfn, ↓reduceIte, Nat.reduceEqDiff]; rfl)) rfl
    · have q1 : (i : Int) < (l.length : Int) := by omega
      have q2 : (0 : Int) ≤ (i : Int) := by omega
      have q3 : i < l.length := by omega
      have q4 : i < m.length := by omega
      have q5 : (i : Int) < (m.length : Int) := by omega
      have f4 := i_add Tryz.prog 3 (i : Int) 1 (by omega) (by omega)
      have dl : l.drop i = l.getD i 0 :: l.drop (i + 1) := by rw [List.getD_eq_getElem?_getD, List.getElem?_eq_getElem q3]; exact List.drop_eq_getElem_cons q3
      have dm : m.drop i = m.getD i 0 :: m.drop (i + 1) := by rw [List.getD_eq_getElem?_getD, List.getElem?_eq_getElem q4]; exact List.drop_eq_getElem_cons q4
      rw [dl, dm, List.cons.injEq] at hd
      by_cases g : l.getD i 0 = m.getD i 0
      · have p2 : ((l.getD i 0 : Int) != (m.getD i 0 : Int)) = false := by rw [g]; exact bne_self_eq_false _
        simp only [zaa, zab, zac, zad, zae, zaf, zag, zah, zai, zaj, zak, zal, zam, zan, zao, zap, zaq, zar, zas, zat, zau, zav, zaw, zax, zay, zaz, zba, zbb, zbc, zbd, zbe, zbf, zbg, zbh, zbi, zbj, zbk, zbl, zbm, zbn, zbo, zbp, zbq, Nat.reduceBEq, Bool.or_self, Bool.or_false, Bool.or_true, Bool.and_true, Bool.and_false, Bool.true_and, Bool.false_and, Option.isNone_none, Option.isNone_some, Option.isSome_some, Option.isSome_none, zbr, zbs, zbt, zbu, zbv, zbw, zbx, zby, zbz, zca, zcb, zcc, zcd, zce, zcf, zcg, zch, zci, zcj, zck, zcl, zcm, zcn, zco, zcp, zcq, zcr, zcs, zct, zcu, zcv, zcw, zcx, zcy, zcz, zda, zdb, zdc, zdd, zde, zdf, zdg, zdh, zdi, zdj, zdk, zdl, zdm, zdn, zdo, zdp, zdq, zdr, zds, Option.getD_some, Option.getD_none, zfg, zfh, zfi, zfj, zfk, zfl, zfm, zfn, Option.map_some, Option.map_none, Option.bind_some, List.map_cons, List.map_nil, List.cons_append, List.nil_append, ↓reduceIte, Nat.reduceEqDiff, Nat.reduceAdd, decide_true, decide_false, Bool.true_eq_false, Bool.false_eq_true, zdt, zdu, zdv, zdw, zdx, zdy, zdz, zea, ia22, ld31, zeb, zec, zed, zee, zef, zeg, zeh, zei, zej, zek, zel, zem, zen, zeo, zep, fa_0, fa_1, zeq, bd_0, bd_2, zer, fd_1, zes, Nat.zero_add, h0, h1, j0, j1, h5, q1, q2, q3, q4, q5, Int.toNat_natCast, p2, f4]
        exact ih (i + 1) _ _ (by omega) rfl ⟨(by first | (simp only [zfn, ↓reduceIte, Nat.reduceEqDiff, h0]; done) | (simp only [zfn, ↓reduceIte, Nat.reduceEqDiff, h0]; rfl)), (by first | (simp only [zfn, ↓reduceIte, Nat.reduceEqDiff, h1]; done) | (simp only [zfn, ↓reduceIte, Nat.reduceEqDiff, h1]; rfl)), (by first | (simp only [zfn, ↓reduceIte, Nat.reduceEqDiff, j0]; done) | (simp only [zfn, ↓reduceIte, Nat.reduceEqDiff, j0]; rfl)), (by first | (simp only [zfn, ↓reduceIte, Nat.reduceEqDiff, j1]; done) | (simp only [zfn, ↓reduceIte, Nat.reduceEqDiff, j1]; rfl)), (by first | (simp only [zfn, ↓reduceIte, Nat.reduceEqDiff]; done) | (simp only [zfn, ↓reduceIte, Nat.reduceEqDiff]; rfl)), by omega, by rw [← hd]; simp only [g, true_and]⟩
      · have p2 : ((l.getD i 0 : Int) != (m.getD i 0 : Int)) = true := by rw [bne_iff_ne]; omega
        have hne : ¬ l = m := fun e => g (hd.mpr e).1
        rw [decide_eq_false hne]
        simp only [zaa, zab, zac, zad, zae, zaf, zag, zah, zai, zaj, zak, zal, zam, zan, zao, zap, zaq, zar, zas, zat, zau, zav, zaw, zax, zay, zaz, zba, zbb, zbc, zbd, zbe, zbf, zbg, zbh, zbi, zbj, zbk, zbl, zbm, zbn, zbo, zbp, zbq, Nat.reduceBEq, Bool.or_self, Bool.or_false, Bool.or_true, Bool.and_true, Bool.and_false, Bool.true_and, Bool.false_and, Option.isNone_none, Option.isNone_some, Option.isSome_some, Option.isSome_none, zbr, zbs, zbt, zbu, zbv, zbw, zbx, zby, zbz, zca, zcb, zcc, zcd, zce, zcf, zcg, zch, zci, zcj, zck, zcl, zcm, zcn, zco, zcp, zcq, zcr, zcs, zct, zcu, zcv, zcw, zcx, zcy, zcz, zda, zdb, zdc, zdd, zde, zdf, zdg, zdh, zdi, zdj, zdk, zdl, zdm, zdn, zdo, zdp, zdq, zdr, zds, Option.getD_some, Option.getD_none, zfg, zfh, zfi, zfj, zfk, zfl, zfm, zfn, Option.map_some, Option.map_none, Option.bind_some, List.map_cons, List.map_nil, List.cons_append, List.nil_append, ↓reduceIte, Nat.reduceEqDiff, Nat.reduceAdd, decide_true, decide_false, Bool.true_eq_false, Bool.false_eq_true, zdt, zdu, zdv, zdw, zdx, zdy, zdz, zea, ia22, ld31, zeb, zec, zed, zee, zef, zeg, zeh, zei, zej, zek, zel, zem, zen, zeo, zep, fa_0, fa_1, zeq, bd_0, bd_2, zer, fd_1, zes, Nat.zero_add, h0, h1, j0, j1, h5, q1, q2, q3, q4, q5, Int.toNat_natCast, p2, f4]
        exact finish_b _ _ _ _ _ _ _ (by first | (simp only [zfn, ↓reduceIte, Nat.reduceEqDiff]; done) | (simp only [zfn, ↓reduceIte, Nat.reduceEqDiff]; rfl)) rfl
  · have p1 : ((l.length : Int) != (m.length : Int)) = true := by rw [bne_iff_ne]; omega
    rw [decide_eq_false (fun e => hlm (by rw [e]))]
    simp only [zaa, zab, zac, zad, zae, zaf, zag, zah, zai, zaj, zak, zal, zam, zan, zao, zap, zaq, zar, zas, zat, zau, zav, zaw, zax, zay, zaz, zba, zbb, zbc, zbd, zbe, zbf, zbg, zbh, zbi, zbj, zbk, zbl, zbm, zbn, zbo, zbp, zbq, Nat.reduceBEq, Bool.or_self, Bool.or_false, Bool.or_true, Bool.and_true, Bool.and_false, Bool.true_and, Bool.false_and, Option.isNone_none, Option.isNone_some, Option.isSome_some, Option.isSome_none, zbr, zbs, zbt, zbu, zbv, zbw, zbx, zby, zbz, zca, zcb, zcc, zcd, zce, zcf, zcg, zch, zci, zcj, zck, zcl, zcm, zcn, zco, zcp, zcq, zcr, zcs, zct, zcu, zcv, zcw, zcx, zcy, zcz, zda, zdb, zdc, zdd, zde, zdf, zdg, zdh, zdi, zdj, zdk, zdl, zdm, zdn, zdo, zdp, zdq, zdr, zds, Option.getD_some, Option.getD_none, zfg, zfh, zfi, zfj, zfk, zfl, zfm, zfn, Option.map_some, Option.map_none, Option.bind_some, List.map_cons, List.map_nil, List.cons_append, List.nil_append, ↓reduceIte, Nat.reduceEqDiff, Nat.reduceAdd, decide_true, decide_false, Bool.true_eq_false, Bool.false_eq_true, env0, List.getElem?_cons_zero, List.getElem?_cons_succ, zdt, zdu, zdv, zdw, zdx, zdy, zdz, zea, ia22, ld31, zeb, zec, zed, zee, zef, zeg, zeh, zei, zej, zek, zel, zem, zen, zeo, zep, fa_0, fa_1, zeq, bd_0, bd_2, zer, fd_1, zes, Nat.zero_add, encA, b_neqV, p0, Bool.not_true, p1]
    exact finish_b _ _ _ _ _ _ _ (by first | (simp only [zfn, ↓reduceIte, Nat.reduceEqDiff]; done) | (simp only [zfn, ↓reduceIte, Nat.reduceEqDiff]; rfl)) rfl
noncomputable def codeRS : Code := (Tryz.f18.body).getD .skip
noncomputable def rs20 : Code := seqR (seqR (seqR (seqR codeRS)))
set_option maxHeartbeats 32000000 in
theorem rsameK_eq (n D : Nat) (a b : T) (ha : (kidsT a).length < n) (ha2 : (kidsT a).length ≤ 1000000)
    (h : ∀ i j x y q r, (kidsT a).drop i = x :: q → (kidsT b).drop j = y :: r → evalFn Tryz.prog cfg0 n D 18 [.tree (encT x), .tree (encT y)] = some (.tree (.bool (sameT x y)), [[], []])) (env : Env) (s : St) (e2 : env 2 = .ptr 2 1 0) (e3 : env 3 = .ptr 3 1 0) (j2 : s 2 = ⟨1, .buf (cellsT a)⟩) (j3 : s 3 = ⟨1, .buf (cellsT b)⟩) (e5 : env 5 = .bool true) :
    den Tryz.prog cfg0 (evalFn Tryz.prog cfg0 n D) n rs20 (finK Tryz.prog (cfg0.keep 18) [.tree (encT a), .tree (encT b)] Tryz.f18.results) env s = some (.tree (.bool (sameK (kidsT a) (kidsT b))), [[], []]) := by
  obtain ⟨k, n1, lg, l, s1, i1, kg, us⟩ := a
  obtain ⟨k', n2, lg', l', s', i2, kg', vs⟩ := b
  simp only [kidsT] at ha ha2 h ⊢
  simp only [cellsT] at j2 j3
  by_cases hl : us.length = vs.length
  case neg =>
    have p1 : ((us.length : Int) != (vs.length : Int)) = true := by rw [bne_iff_ne]; omega
    rw [sameK_len us vs hl]
    simp only [rs20, codeRS, seqR, Tryz.f18, Option.getD_some, zaa, zab, zac, zad, zae, zaf, zag, zah, zai, zaj, zak, zal, zam, zan, zao, zap, zaq, zar, zas, zat, zau, zav, zaw, zax, zay, zaz, zba, zbb, zbc, zbd, zbe, zbf, zbg, zbh, zbi, zbj, zbk, zbl, zbm, zbn, zbo, zbp, zbq, Nat.reduceBEq, Bool.or_self, Bool.or_false, Bool.or_true, Bool.and_true, Bool.and_false, Bool.true_and, Bool.false_and, Option.isNone_none, Option.isNone_some, Option.isSome_some, Option.isSome_none, zbr, zbs, zbt, zbu, zbv, zbw, zbx, zby, zbz, zca, zcb, zcc, zcd, zce, zcf, zcg, zch, zci, zcj, zck, zcl, zcm, zcn, zco, zcp, zcq, zcr, zcs, zct, zcu, zcv, zcw, zcx, zcy, zcz, zda, zdb, zdc, zdd, zde, zdf, zdg, zdh, zdi, zdj, zdk, zdl, zdm, zdn, zdo, zdp, zdq, zdr, zds, Option.getD_some, Option.getD_none, zfg, zfh, zfi, zfj, zfk, zfl, zfm, zfn, Option.map_some, Option.map_none, Option.bind_some, List.map_cons, List.map_nil, List.cons_append, List.nil_append, ↓reduceIte, Nat.reduceEqDiff, Nat.reduceAdd, decide_true, decide_false, Bool.true_eq_false, Bool.false_eq_true, zdt, zdu, zdv, zdw, zdx, zdy, zdz, zea, ia22, ld31, zeb, zec, zed, zee, zef, zeg, zeh, zei, zej, zek, zel, zem, zen, zeo, zep, fa_0, fa_1, zeq, bd_0, bd_2, zer, fd_1, zes, Nat.zero_add, e2, e3, e5, j2, j3, faT_4, ldT_4, Nat.reduceAdd, unA_not', Bool.not_true, lenTk, i_neqV, p1]
    exact finish_b _ _ _ _ _ _ _ (by first | (simp only [zfn, ↓reduceIte, Nat.reduceEqDiff]; done) | (simp only [zfn, ↓reduceIte, Nat.reduceEqDiff]; rfl)) rfl
  have p1 : ((us.length : Int) != (vs.length : Int)) = false := by rw [hl]; exact bne_self_eq_false _
  simp only [rs20, codeRS, seqR, Tryz.f18, Option.getD_some, zaa, zab, zac, zad, zae, zaf, zag, zah, zai, zaj, zak, zal, zam, zan, zao, zap, zaq, zar, zas, zat, zau, zav, zaw, zax, zay, zaz, zba, zbb, zbc, zbd, zbe, zbf, zbg, zbh, zbi, zbj, zbk, zbl, zbm, zbn, zbo, zbp, zbq, Nat.reduceBEq, Bool.or_self, Bool.or_false, Bool.or_true, Bool.and_true, Bool.and_false, Bool.true_and, Bool.false_and, Option.isNone_none, Option.isNone_some, Option.isSome_some, Option.isSome_none, zbr, zbs, zbt, zbu, zbv, zbw, zbx, zby, zbz, zca, zcb, zcc, zcd, zce, zcf, zcg, zch, zci, zcj, zck, zcl, zcm, zcn, zco, zcp, zcq, zcr, zcs, zct, zcu, zcv, zcw, zcx, zcy, zcz, zda, zdb, zdc, zdd, zde, zdf, zdg, zdh, zdi, zdj, zdk, zdl, zdm, zdn, zdo, zdp, zdq, zdr, zds, Option.getD_some, Option.getD_none, zfg, zfh, zfi, zfj, zfk, zfl, zfm, zfn, Option.map_some, Option.map_none, Option.bind_some, List.map_cons, List.map_nil, List.cons_append, List.nil_append, ↓reduceIte, Nat.reduceEqDiff, Nat.reduceAdd, decide_true, decide_false, Bool.true_eq_false, Bool.false_eq_true, zdt, zdu, zdv, zdw, zdx, zdy, zdz, zea, ia22, ld31, zeb, zec, zed, zee, zef, zeg, zeh, zei, zej, zek, zel, zem, zen, zeo, zep, fa_0, fa_1, zeq, bd_0, bd_2, zer, fd_1, zes, Nat.zero_add, e2, e3, e5, j2, j3, faT_4, ldT_4, Nat.reduceAdd, unA_not', Bool.not_true, lenTk, i_neqV, p1, den_loop]
  refine loop_ends (X := Nat) (fun i env s => env 2 = .ptr 2 1 0 ∧ env 3 = .ptr 3 1 0 ∧ s 2 = ⟨1, .buf (cellsT (.mk k n1 lg l s1 i1 kg us))⟩ ∧ s 3 = ⟨1, .buf (cellsT (.mk k' n2 lg' l' s' i2 kg' vs))⟩ ∧ env 6 = .int .i64 (i : Int) ∧ i ≤ us.length ∧ sameK (us.drop i) (vs.drop i) = sameK us vs) (fun i => us.length - i) (fun _ => (.tree (.bool (sameK us vs)), [[], []])) ?_ n 0 _ _ (by omega) ⟨(by first | (simp only [zfn, ↓reduceIte, Nat.reduceEqDiff, e2]; done) | (simp only [zfn, ↓reduceIte, Nat.reduceEqDiff, e2]; rfl)), (by first | (simp only [zfn, ↓reduceIte, Nat.reduceEqDiff, e3]; done) | (simp only [zfn, ↓reduceIte, Nat.reduceEqDiff, e3]; rfl)), by simp only [cellsT]; exact j2, by simp only [cellsT]; exact j3, (by first | (simp only [zfn, ↓reduceIte, Nat.reduceEqDiff]; done) | (simp only [zfn, ↓reduceIte, Nat.reduceEqDiff]; rfl)), Nat.zero_le _, rfl⟩
  clear e2 e3 j2 j3 e5
  intro rr i hx ih env st ⟨e2, e3, j2, j3, e6, hi, hc⟩
  simp only [cellsT] at j2 j3
  cases hda : us.drop i with
  | nil =>
    have hil : i = us.length := by have := congrArg List.length hda; simp only [List.length_drop, List.length_nil] at this; omega
    have q1 : ¬ ((i : Int) < (us.length : Int)) := by omega
    have hdb : vs.drop i = [] := List.drop_eq_nil_of_le (by omega)
    rw [hda, hdb] at hc
    simp only [sameK] at hc
    rw [← hc]
    simp only [zaa, zab, zac, zad, zae, zaf, zag, zah, zai, zaj, zak, zal, zam, zan, zao, zap, zaq, zar, zas, zat, zau, zav, zaw, zax, zay, zaz, zba, zbb, zbc, zbd, zbe, zbf, zbg, zbh, zbi, zbj, zbk, zbl, zbm, zbn, zbo, zbp, zbq, Nat.reduceBEq, Bool.or_self, Bool.or_false, Bool.or_true, Bool.and_true, Bool.and_false, Bool.true_and, Bool.false_and, Option.isNone_none, Option.isNone_some, Option.isSome_some, Option.isSome_none, zbr, zbs, zbt, zbu, zbv, zbw, zbx, zby, zbz, zca, zcb, zcc, zcd, zce, zcf, zcg, zch, zci, zcj, zck, zcl, zcm, zcn, zco, zcp, zcq, zcr, zcs, zct, zcu, zcv, zcw, zcx, zcy, zcz, zda, zdb, zdc, zdd, zde, zdf, zdg, zdh, zdi, zdj, zdk, zdl, zdm, zdn, zdo, zdp, zdq, zdr, zds, Option.getD_some, Option.getD_none, zfg, zfh, zfi, zfj, zfk, zfl, zfm, zfn, Option.map_some, Option.map_none, Option.bind_some, List.map_cons, List.map_nil, List.cons_append, List.nil_append, ↓reduceIte, Nat.reduceEqDiff, Nat.reduceAdd, decide_true, decide_false, Bool.true_eq_false, Bool.false_eq_true, zdt, zdu, zdv, zdw, zdx, zdy, zdz, zea, ia22, ld31, zeb, zec, zed, zee, zef, zeg, zeh, zei, zej, zek, zel, zem, zen, zeo, zep, fa_0, fa_1, zeq, bd_0, bd_2, zer, fd_1, zes, Nat.zero_add, e2, e3, j2, j3, e6, faT_4, ldT_4, Nat.reduceAdd, lenTk, q1]
    exact finish_b _ _ _ _ _ _ _ (by first | (simp only [zfn, ↓reduceIte, Nat.reduceEqDiff]; done) | (simp only [zfn, ↓reduceIte, Nat.reduceEqDiff]; rfl)) rfl
  | cons x q =>
    have hil : i < us.length := by have := congrArg List.length hda; simp only [List.length_drop, List.length_cons] at this; omega
    have hjl : i < vs.length := by omega
    have q1 : (i : Int) < (us.length : Int) := by omega
    have ia := fun st => ia_K st us (gr kg) i hil
    rw [hda] at ia hc
    have ld := fun st => ld_K st x q
    simp only [encT] at ld
    cases hdb : vs.drop i with
    | nil => have := congrArg List.length hdb; simp only [List.length_drop, List.length_nil] at this; omega
    | cons y r =>
      have ib := fun st => ia_K st vs (gr kg') i hjl
      rw [hdb] at ib hc
      have ldb := fun st => ld_K st y r
      simp only [encT] at ldb
      simp only [sameK] at hc
      have cc := callQ_trees (f := 18) (vs := [encT x, encT y]) rfl (h i i x y q r hda hdb)
      simp only [encT] at cc
      have f5 := i_add Tryz.prog 3 (i : Int) 1 (by omega) (by omega)
      cases g : sameT x y with
      | true =>
        rw [g, Bool.true_and] at hc
        rw [g] at cc
        simp only [zaa, zab, zac, zad, zae, zaf, zag, zah, zai, zaj, zak, zal, zam, zan, zao, zap, zaq, zar, zas, zat, zau, zav, zaw, zax, zay, zaz, zba, zbb, zbc, zbd, zbe, zbf, zbg, zbh, zbi, zbj, zbk, zbl, zbm, zbn, zbo, zbp, zbq, Nat.reduceBEq, Bool.or_self, Bool.or_false, Bool.or_true, Bool.and_true, Bool.and_false, Bool.true_and, Bool.false_and, Option.isNone_none, Option.isNone_some, Option.isSome_some, Option.isSome_none, zbr, zbs, zbt, zbu, zbv, zbw, zbx, zby, zbz, zca, zcb, zcc, zcd, zce, zcf, zcg, zch, zci, zcj, zck, zcl, zcm, zcn, zco, zcp, zcq, zcr, zcs, zct, zcu, zcv, zcw, zcx, zcy, zcz, zda, zdb, zdc, zdd, zde, zdf, zdg, zdh, zdi, zdj, zdk, zdl, zdm, zdn, zdo, zdp, zdq, zdr, zds, Option.getD_some, Option.getD_none, zfg, zfh, zfi, zfj, zfk, zfl, zfm, zfn, Option.map_some, Option.map_none, Option.bind_some, List.map_cons, List.map_nil, List.cons_append, List.nil_append, ↓reduceIte, Nat.reduceEqDiff, Nat.reduceAdd, decide_true, decide_false, Bool.true_eq_false, Bool.false_eq_true, zdt, zdu, zdv, zdw, zdx, zdy, zdz, zea, ia22, ld31, zeb, zec, zed, zee, zef, zeg, zeh, zei, zej, zek, zel, zem, zen, zeo, zep, fa_0, fa_1, zeq, bd_0, bd_2, zer, fd_1, zes, Nat.zero_add, e2, e3, j2, j3, e6, faT_4, ldT_4, Nat.reduceAdd, q1, lenTk, ia, ib, ld, ldb, cc, unA_not', Bool.not_true, f5]
        exact ih (i + 1) _ _ (by omega) rfl ⟨(by first | (simp only [zfn, ↓reduceIte, Nat.reduceEqDiff, e2]; done) | (simp only [zfn, ↓reduceIte, Nat.reduceEqDiff, e2]; rfl)), (by first | (simp only [zfn, ↓reduceIte, Nat.reduceEqDiff, e3]; done) | (simp only [zfn, ↓reduceIte, Nat.reduceEqDiff, e3]; rfl)), by simp only [cellsT]; exact j2, by simp only [cellsT]; exact j3, (by first | (simp only [zfn, ↓reduceIte, Nat.reduceEqDiff]; done) | (simp only [zfn, ↓reduceIte, Nat.reduceEqDiff]; rfl)), by omega, by rw [drop_next hda, drop_next hdb]; exact hc⟩
      | false =>
        rw [g, Bool.false_and] at hc
        rw [g] at cc
        rw [← hc]
        simp only [zaa, zab, zac, zad, zae, zaf, zag, zah, zai, zaj, zak, zal, zam, zan, zao, zap, zaq, zar, zas, zat, zau, zav, zaw, zax, zay, zaz, zba, zbb, zbc, zbd, zbe, zbf, zbg, zbh, zbi, zbj, zbk, zbl, zbm, zbn, zbo, zbp, zbq, Nat.reduceBEq, Bool.or_self, Bool.or_false, Bool.or_true, Bool.and_true, Bool.and_false, Bool.true_and, Bool.false_and, Option.isNone_none, Option.isNone_some, Option.isSome_some, Option.isSome_none, zbr, zbs, zbt, zbu, zbv, zbw, zbx, zby, zbz, zca, zcb, zcc, zcd, zce, zcf, zcg, zch, zci, zcj, zck, zcl, zcm, zcn, zco, zcp, zcq, zcr, zcs, zct, zcu, zcv, zcw, zcx, zcy, zcz, zda, zdb, zdc, zdd, zde, zdf, zdg, zdh, zdi, zdj, zdk, zdl, zdm, zdn, zdo, zdp, zdq, zdr, zds, Option.getD_some, Option.getD_none, zfg, zfh, zfi, zfj, zfk, zfl, zfm, zfn, Option.map_some, Option.map_none, Option.bind_some, List.map_cons, List.map_nil, List.cons_append, List.nil_append, ↓reduceIte, Nat.reduceEqDiff, Nat.reduceAdd, decide_true, decide_false, Bool.true_eq_false, Bool.false_eq_true, zdt, zdu, zdv, zdw, zdx, zdy, zdz, zea, ia22, ld31, zeb, zec, zed, zee, zef, zeg, zeh, zei, zej, zek, zel, zem, zen, zeo, zep, fa_0, fa_1, zeq, bd_0, bd_2, zer, fd_1, zes, Nat.zero_add, e2, e3, j2, j3, e6, faT_4, ldT_4, Nat.reduceAdd, q1, lenTk, ia, ib, ld, ldb, cc, unA_not', Bool.not_false, f5]
        exact finish_b _ _ _ _ _ _ _ (by first | (simp only [zfn, ↓reduceIte, Nat.reduceEqDiff]; done) | (simp only [zfn, ↓reduceIte, Nat.reduceEqDiff]; rfl)) rfl
end Go.Ab

/- relictref03.Same of any terms. Conditions: so many limbs, nodes at most. -/
namespace Go.Ab
open Go.Proofs
set_option maxRecDepth 100000
set_option linter.unusedSimpArgs false
set_option maxHeartbeats 32000000 in
theorem rsame_eq (n : Nat) (hn : n ≤ 1000001) : ∀ (d D : Nat) (a0 b0 : T), htT a0 ≤ d → d + 1 ≤ D → fewT n a0 →
    evalFn Tryz.prog cfg0 n D 18 [.tree (encT a0), .tree (encT b0)] = some (.tree (.bool (sameT a0 b0)), [[], []])
  | 0, _, a0, b0, hd, _, hf => by obtain ⟨k, b, lg, l, s, m, kg, ks⟩ := a0; simp only [htT] at hd; omega
  | d + 1, D, a0, b0, hd, hD, hf => by
    obtain ⟨m, rfl⟩ : ∃ m, D = m + 2 := ⟨D - 2, by omega⟩
    have IH := fun a b h1 h2 => rsame_eq n hn d (m + 1) a b h1 (by omega) h2
    rw [evalFn_go _ Tryz.func18 (by unfold Tryz.f18; rfl) (by unfold Tryz.f18; decide) (Nat.le_of_ble_eq_true (by unfold Tryz.f18; rfl)) (by kernel_rfl)]
    have K := rsameK_eq n (m + 1) a0 b0
    obtain ⟨k, n1, lg, l, s, i1, kg, ks⟩ := a0
    obtain ⟨k', n2, lg', l', s', i2, kg', ks'⟩ := b0
    have hf' : l.length < n ∧ ks.length < n ∧ fewK n ks := by simp only [fewT] at hf; exact hf
    have hhk : htK ks ≤ d := by simp only [htT] at hd; omega
    have c1 := fun D st => callA_trees (cfg := cfg0) (d := D) (s := st) (f := 43) (vs := [encA n1 lg l, encA n2 lg' l']) (by cases lg <;> cases lg' <;> rfl) (rsameNum_eq n m n1 n2 lg lg' l l' hf'.1 (by omega))
    simp only [encA] at c1
    simp only [kidsT] at K
    have K := fun env s => K hf'.2.1 (by omega) (fun i j x y q r h1 h2 => IH x y (by have := kids_ht ks i x q h1; omega) (fewK_at _ ks i x q h1 hf'.2.2)) env s
    simp only [encT] at K
    have iq : (i1 == i2) = decide (i1 = i2) := intEq _ _
    by_cases hk : k = k'
    case neg =>
      have p1 : (k != k') = true := by rw [bne_iff_ne]; exact hk
      have hr : sameT (.mk k n1 lg l s i1 kg ks) (.mk k' n2 lg' l' s' i2 kg' ks') = false := by first | (simp [sameT, kindT, sgnT, limT, strT, nT, kidsT, hk]; done) | (simp [sameT, kindT, sgnT, limT, strT, nT, kidsT, hk]; rfl)
      rw [hr]
      simp only [zaa, zab, zac, zad, zae, zaf, zag, zah, zai, zaj, zak, zal, zam, zan, zao, zap, zaq, zar, zas, zat, zau, zav, zaw, zax, zay, zaz, zba, zbb, zbc, zbd, zbe, zbf, zbg, zbh, zbi, zbj, zbk, zbl, zbm, zbn, zbo, zbp, zbq, Nat.reduceBEq, Bool.or_self, Bool.or_false, Bool.or_true, Bool.and_true, Bool.and_false, Bool.true_and, Bool.false_and, Option.isNone_none, Option.isNone_some, Option.isSome_some, Option.isSome_none, zbr, zbs, zbt, zbu, zbv, zbw, zbx, zby, zbz, zca, zcb, zcc, zcd, zce, zcf, zcg, zch, zci, zcj, zck, zcl, zcm, zcn, zco, zcp, zcq, zcr, zcs, zct, zcu, zcv, zcw, zcx, zcy, zcz, zda, zdb, zdc, zdd, zde, zdf, zdg, zdh, zdi, zdj, zdk, zdl, zdm, zdn, zdo, zdp, zdq, zdr, zds, Option.getD_some, Option.getD_none, zfg, zfh, zfi, zfj, zfk, zfl, zfm, zfn, Option.map_some, Option.map_none, Option.bind_some, List.map_cons, List.map_nil, List.cons_append, List.nil_append, ↓reduceIte, Nat.reduceEqDiff, Nat.reduceAdd, decide_true, decide_false, Bool.true_eq_false, Bool.false_eq_true, env0, List.getElem?_cons_zero, List.getElem?_cons_succ, zdt, zdu, zdv, zdw, zdx, zdy, zdz, zea, ia22, ld31, zeb, zec, zed, zee, zef, zeg, zeh, zei, zej, zek, zel, zem, zen, zeo, zep, fa_0, fa_1, zeq, bd_0, bd_2, zer, fd_1, zes, Nat.zero_add, encT, cellsT, faT_0, ldT_0, i_neqV, p1]
      exact finish_b _ _ _ _ _ _ _ (by first | (simp only [zfn, ↓reduceIte, Nat.reduceEqDiff]; done) | (simp only [zfn, ↓reduceIte, Nat.reduceEqDiff]; rfl)) rfl
    subst hk
    have p1 : (k != k) = false := bne_self_eq_false _
    by_cases h1 : k = 1
    · subst h1
      have hr : sameT (.mk 1 n1 lg l s i1 kg ks) (.mk 1 n2 lg' l' s' i2 kg' ks') = (decide (n1 = n2) && decide (l = l')) := by first | (simp [sameT, kindT, sgnT, limT, strT, nT, kidsT]; done) | (simp [sameT, kindT, sgnT, limT, strT, nT, kidsT]; rfl)
      rw [hr]
      simp only [zaa, zab, zac, zad, zae, zaf, zag, zah, zai, zaj, zak, zal, zam, zan, zao, zap, zaq, zar, zas, zat, zau, zav, zaw, zax, zay, zaz, zba, zbb, zbc, zbd, zbe, zbf, zbg, zbh, zbi, zbj, zbk, zbl, zbm, zbn, zbo, zbp, zbq, Nat.reduceBEq, Bool.or_self, Bool.or_false, Bool.or_true, Bool.and_true, Bool.and_false, Bool.true_and, Bool.false_and, Option.isNone_none, Option.isNone_some, Option.isSome_some, Option.isSome_none, zbr, zbs, zbt, zbu, zbv, zbw, zbx, zby, zbz, zca, zcb, zcc, zcd, zce, zcf, zcg, zch, zci, zcj, zck, zcl, zcm, zcn, zco, zcp, zcq, zcr, zcs, zct, zcu, zcv, zcw, zcx, zcy, zcz, zda, zdb, zdc, zdd, zde, zdf, zdg, zdh, zdi, zdj, zdk, zdl, zdm, zdn, zdo, zdp, zdq, zdr, zds, Option.getD_some, Option.getD_none, zfg, zfh, zfi, zfj, zfk, zfl, zfm, zfn, Option.map_some, Option.map_none, Option.bind_some, List.map_cons, List.map_nil, List.cons_append, List.nil_append, ↓reduceIte, Nat.reduceEqDiff, Nat.reduceAdd, decide_true, decide_false, Bool.true_eq_false, Bool.false_eq_true, env0, List.getElem?_cons_zero, List.getElem?_cons_succ, zdt, zdu, zdv, zdw, zdx, zdy, zdz, zea, ia22, ld31, zeb, zec, zed, zee, zef, zeg, zeh, zei, zej, zek, zel, zem, zen, zeo, zep, fa_0, fa_1, zeq, bd_0, bd_2, zer, fd_1, zes, Nat.zero_add, encT, cellsT, faT_0, faT_1, faT_2, faT_3, faT_4, ldT_0, ldT_1, ldT_2, ldT_3, ldT_4, Nat.reduceAdd, i_neqV, p1, i_eqlV, Int.reduceBEq, s_eqlS, c1]
      exact finish_b _ _ _ _ _ _ _ (by first | (simp only [zfn, ↓reduceIte, Nat.reduceEqDiff]; done) | (simp only [zfn, ↓reduceIte, Nat.reduceEqDiff]; rfl)) rfl
    have b1 : (k == 1) = false := beq_eq_false_iff_ne.mpr h1
    by_cases h2 : k = 2
    · subst h2
      have hr : sameT (.mk 2 n1 lg l s i1 kg ks) (.mk 2 n2 lg' l' s' i2 kg' ks') = (decide (s = s')) := by first | (simp [sameT, kindT, sgnT, limT, strT, nT, kidsT]; done) | (simp [sameT, kindT, sgnT, limT, strT, nT, kidsT]; rfl)
      rw [hr]
      simp only [zaa, zab, zac, zad, zae, zaf, zag, zah, zai, zaj, zak, zal, zam, zan, zao, zap, zaq, zar, zas, zat, zau, zav, zaw, zax, zay, zaz, zba, zbb, zbc, zbd, zbe, zbf, zbg, zbh, zbi, zbj, zbk, zbl, zbm, zbn, zbo, zbp, zbq, Nat.reduceBEq, Bool.or_self, Bool.or_false, Bool.or_true, Bool.and_true, Bool.and_false, Bool.true_and, Bool.false_and, Option.isNone_none, Option.isNone_some, Option.isSome_some, Option.isSome_none, zbr, zbs, zbt, zbu, zbv, zbw, zbx, zby, zbz, zca, zcb, zcc, zcd, zce, zcf, zcg, zch, zci, zcj, zck, zcl, zcm, zcn, zco, zcp, zcq, zcr, zcs, zct, zcu, zcv, zcw, zcx, zcy, zcz, zda, zdb, zdc, zdd, zde, zdf, zdg, zdh, zdi, zdj, zdk, zdl, zdm, zdn, zdo, zdp, zdq, zdr, zds, Option.getD_some, Option.getD_none, zfg, zfh, zfi, zfj, zfk, zfl, zfm, zfn, Option.map_some, Option.map_none, Option.bind_some, List.map_cons, List.map_nil, List.cons_append, List.nil_append, ↓reduceIte, Nat.reduceEqDiff, Nat.reduceAdd, decide_true, decide_false, Bool.true_eq_false, Bool.false_eq_true, env0, List.getElem?_cons_zero, List.getElem?_cons_succ, zdt, zdu, zdv, zdw, zdx, zdy, zdz, zea, ia22, ld31, zeb, zec, zed, zee, zef, zeg, zeh, zei, zej, zek, zel, zem, zen, zeo, zep, fa_0, fa_1, zeq, bd_0, bd_2, zer, fd_1, zes, Nat.zero_add, encT, cellsT, faT_0, faT_1, faT_2, faT_3, faT_4, ldT_0, ldT_1, ldT_2, ldT_3, ldT_4, Nat.reduceAdd, i_neqV, p1, i_eqlV, Int.reduceBEq, s_eqlS, strEq]
      exact finish_b _ _ _ _ _ _ _ (by first | (simp only [zfn, ↓reduceIte, Nat.reduceEqDiff]; done) | (simp only [zfn, ↓reduceIte, Nat.reduceEqDiff]; rfl)) rfl
    have b2 : (k == 2) = false := beq_eq_false_iff_ne.mpr h2
    by_cases h6 : k = 6
    · subst h6
      have hr : sameT (.mk 6 n1 lg l s i1 kg ks) (.mk 6 n2 lg' l' s' i2 kg' ks') = (decide (s = s')) := by first | (simp [sameT, kindT, sgnT, limT, strT, nT, kidsT]; done) | (simp [sameT, kindT, sgnT, limT, strT, nT, kidsT]; rfl)
      rw [hr]
      simp only [zaa, zab, zac, zad, zae, zaf, zag, zah, zai, zaj, zak, zal, zam, zan, zao, zap, zaq, zar, zas, zat, zau, zav, zaw, zax, zay, zaz, zba, zbb, zbc, zbd, zbe, zbf, zbg, zbh, zbi, zbj, zbk, zbl, zbm, zbn, zbo, zbp, zbq, Nat.reduceBEq, Bool.or_self, Bool.or_false, Bool.or_true, Bool.and_true, Bool.and_false, Bool.true_and, Bool.false_and, Option.isNone_none, Option.isNone_some, Option.isSome_some, Option.isSome_none, zbr, zbs, zbt, zbu, zbv, zbw, zbx, zby, zbz, zca, zcb, zcc, zcd, zce, zcf, zcg, zch, zci, zcj, zck, zcl, zcm, zcn, zco, zcp, zcq, zcr, zcs, zct, zcu, zcv, zcw, zcx, zcy, zcz, zda, zdb, zdc, zdd, zde, zdf, zdg, zdh, zdi, zdj, zdk, zdl, zdm, zdn, zdo, zdp, zdq, zdr, zds, Option.getD_some, Option.getD_none, zfg, zfh, zfi, zfj, zfk, zfl, zfm, zfn, Option.map_some, Option.map_none, Option.bind_some, List.map_cons, List.map_nil, List.cons_append, List.nil_append, ↓reduceIte, Nat.reduceEqDiff, Nat.reduceAdd, decide_true, decide_false, Bool.true_eq_false, Bool.false_eq_true, env0, List.getElem?_cons_zero, List.getElem?_cons_succ, zdt, zdu, zdv, zdw, zdx, zdy, zdz, zea, ia22, ld31, zeb, zec, zed, zee, zef, zeg, zeh, zei, zej, zek, zel, zem, zen, zeo, zep, fa_0, fa_1, zeq, bd_0, bd_2, zer, fd_1, zes, Nat.zero_add, encT, cellsT, faT_0, faT_1, faT_2, faT_3, faT_4, ldT_0, ldT_1, ldT_2, ldT_3, ldT_4, Nat.reduceAdd, i_neqV, p1, i_eqlV, Int.reduceBEq, s_eqlS, strEq]
      exact finish_b _ _ _ _ _ _ _ (by first | (simp only [zfn, ↓reduceIte, Nat.reduceEqDiff]; done) | (simp only [zfn, ↓reduceIte, Nat.reduceEqDiff]; rfl)) rfl
    have b6 : (k == 6) = false := beq_eq_false_iff_ne.mpr h6
    by_cases h8 : k = 8
    · subst h8
      have hr : sameT (.mk 8 n1 lg l s i1 kg ks) (.mk 8 n2 lg' l' s' i2 kg' ks') = (decide (s = s') && decide (i1 = i2)) := by first | (simp [sameT, kindT, sgnT, limT, strT, nT, kidsT]; done) | (simp [sameT, kindT, sgnT, limT, strT, nT, kidsT]; rfl)
      rw [hr]
      by_cases g : s = s'
      · have g' : (s == s') = true := beq_iff_eq.mpr g
        rw [decide_eq_true g, Bool.true_and]
        simp only [zaa, zab, zac, zad, zae, zaf, zag, zah, zai, zaj, zak, zal, zam, zan, zao, zap, zaq, zar, zas, zat, zau, zav, zaw, zax, zay, zaz, zba, zbb, zbc, zbd, zbe, zbf, zbg, zbh, zbi, zbj, zbk, zbl, zbm, zbn, zbo, zbp, zbq, Nat.reduceBEq, Bool.or_self, Bool.or_false, Bool.or_true, Bool.and_true, Bool.and_false, Bool.true_and, Bool.false_and, Option.isNone_none, Option.isNone_some, Option.isSome_some, Option.isSome_none, zbr, zbs, zbt, zbu, zbv, zbw, zbx, zby, zbz, zca, zcb, zcc, zcd, zce, zcf, zcg, zch, zci, zcj, zck, zcl, zcm, zcn, zco, zcp, zcq, zcr, zcs, zct, zcu, zcv, zcw, zcx, zcy, zcz, zda, zdb, zdc, zdd, zde, zdf, zdg, zdh, zdi, zdj, zdk, zdl, zdm, zdn, zdo, zdp, zdq, zdr, zds, Option.getD_some, Option.getD_none, zfg, zfh, zfi, zfj, zfk, zfl, zfm, zfn, Option.map_some, Option.map_none, Option.bind_some, List.map_cons, List.map_nil, List.cons_append, List.nil_append, ↓reduceIte, Nat.reduceEqDiff, Nat.reduceAdd, decide_true, decide_false, Bool.true_eq_false, Bool.false_eq_true, env0, List.getElem?_cons_zero, List.getElem?_cons_succ, zdt, zdu, zdv, zdw, zdx, zdy, zdz, zea, ia22, ld31, zeb, zec, zed, zee, zef, zeg, zeh, zei, zej, zek, zel, zem, zen, zeo, zep, fa_0, fa_1, zeq, bd_0, bd_2, zer, fd_1, zes, Nat.zero_add, encT, cellsT, faT_0, faT_1, faT_2, faT_3, faT_4, ldT_0, ldT_1, ldT_2, ldT_3, ldT_4, Nat.reduceAdd, i_neqV, p1, i_eqlV, Int.reduceBEq, s_eqlS, g', iq]
        exact finish_b _ _ _ _ _ _ _ (by first | (simp only [zfn, ↓reduceIte, Nat.reduceEqDiff]; done) | (simp only [zfn, ↓reduceIte, Nat.reduceEqDiff]; rfl)) rfl
      · have g' : (s == s') = false := beq_eq_false_iff_ne.mpr g
        rw [decide_eq_false g, Bool.false_and]
        simp only [zaa, zab, zac, zad, zae, zaf, zag, zah, zai, zaj, zak, zal, zam, zan, zao, zap, zaq, zar, zas, zat, zau, zav, zaw, zax, zay, zaz, zba, zbb, zbc, zbd, zbe, zbf, zbg, zbh, zbi, zbj, zbk, zbl, zbm, zbn, zbo, zbp, zbq, Nat.reduceBEq, Bool.or_self, Bool.or_false, Bool.or_true, Bool.and_true, Bool.and_false, Bool.true_and, Bool.false_and, Option.isNone_none, Option.isNone_some, Option.isSome_some, Option.isSome_none, zbr, zbs, zbt, zbu, zbv, zbw, zbx, zby, zbz, zca, zcb, zcc, zcd, zce, zcf, zcg, zch, zci, zcj, zck, zcl, zcm, zcn, zco, zcp, zcq, zcr, zcs, zct, zcu, zcv, zcw, zcx, zcy, zcz, zda, zdb, zdc, zdd, zde, zdf, zdg, zdh, zdi, zdj, zdk, zdl, zdm, zdn, zdo, zdp, zdq, zdr, zds, Option.getD_some, Option.getD_none, zfg, zfh, zfi, zfj, zfk, zfl, zfm, zfn, Option.map_some, Option.map_none, Option.bind_some, List.map_cons, List.map_nil, List.cons_append, List.nil_append, ↓reduceIte, Nat.reduceEqDiff, Nat.reduceAdd, decide_true, decide_false, Bool.true_eq_false, Bool.false_eq_true, env0, List.getElem?_cons_zero, List.getElem?_cons_succ, zdt, zdu, zdv, zdw, zdx, zdy, zdz, zea, ia22, ld31, zeb, zec, zed, zee, zef, zeg, zeh, zei, zej, zek, zel, zem, zen, zeo, zep, fa_0, fa_1, zeq, bd_0, bd_2, zer, fd_1, zes, Nat.zero_add, encT, cellsT, faT_0, faT_1, faT_2, faT_3, faT_4, ldT_0, ldT_1, ldT_2, ldT_3, ldT_4, Nat.reduceAdd, i_neqV, p1, i_eqlV, Int.reduceBEq, s_eqlS, g', iq]
        exact finish_b _ _ _ _ _ _ _ (by first | (simp only [zfn, ↓reduceIte, Nat.reduceEqDiff]; done) | (simp only [zfn, ↓reduceIte, Nat.reduceEqDiff]; rfl)) rfl
    have b8 : (k == 8) = false := beq_eq_false_iff_ne.mpr h8
    by_cases h9 : k = 9
    · subst h9
      have hr : sameT (.mk 9 n1 lg l s i1 kg ks) (.mk 9 n2 lg' l' s' i2 kg' ks') = (decide (i1 = i2)) := by first | (simp [sameT, kindT, sgnT, limT, strT, nT, kidsT]; done) | (simp [sameT, kindT, sgnT, limT, strT, nT, kidsT]; rfl)
      rw [hr]
      simp only [zaa, zab, zac, zad, zae, zaf, zag, zah, zai, zaj, zak, zal, zam, zan, zao, zap, zaq, zar, zas, zat, zau, zav, zaw, zax, zay, zaz, zba, zbb, zbc, zbd, zbe, zbf, zbg, zbh, zbi, zbj, zbk, zbl, zbm, zbn, zbo, zbp, zbq, Nat.reduceBEq, Bool.or_self, Bool.or_false, Bool.or_true, Bool.and_true, Bool.and_false, Bool.true_and, Bool.false_and, Option.isNone_none, Option.isNone_some, Option.isSome_some, Option.isSome_none, zbr, zbs, zbt, zbu, zbv, zbw, zbx, zby, zbz, zca, zcb, zcc, zcd, zce, zcf, zcg, zch, zci, zcj, zck, zcl, zcm, zcn, zco, zcp, zcq, zcr, zcs, zct, zcu, zcv, zcw, zcx, zcy, zcz, zda, zdb, zdc, zdd, zde, zdf, zdg, zdh, zdi, zdj, zdk, zdl, zdm, zdn, zdo, zdp, zdq, zdr, zds, Option.getD_some, Option.getD_none, zfg, zfh, zfi, zfj, zfk, zfl, zfm, zfn, Option.map_some, Option.map_none, Option.bind_some, List.map_cons, List.map_nil, List.cons_append, List.nil_append, ↓reduceIte, Nat.reduceEqDiff, Nat.reduceAdd, decide_true, decide_false, Bool.true_eq_false, Bool.false_eq_true, env0, List.getElem?_cons_zero, List.getElem?_cons_succ, zdt, zdu, zdv, zdw, zdx, zdy, zdz, zea, ia22, ld31, zeb, zec, zed, zee, zef, zeg, zeh, zei, zej, zek, zel, zem, zen, zeo, zep, fa_0, fa_1, zeq, bd_0, bd_2, zer, fd_1, zes, Nat.zero_add, encT, cellsT, faT_0, faT_1, faT_2, faT_3, faT_4, ldT_0, ldT_1, ldT_2, ldT_3, ldT_4, Nat.reduceAdd, i_neqV, p1, i_eqlV, Int.reduceBEq, s_eqlS, iq]
      exact finish_b _ _ _ _ _ _ _ (by first | (simp only [zfn, ↓reduceIte, Nat.reduceEqDiff]; done) | (simp only [zfn, ↓reduceIte, Nat.reduceEqDiff]; rfl)) rfl
    have b9 : (k == 9) = false := beq_eq_false_iff_ne.mpr h9
    by_cases h7 : k = 7
    · subst h7
      have hr : sameT (.mk 7 n1 lg l s i1 kg ks) (.mk 7 n2 lg' l' s' i2 kg' ks') = (decide (i1 = i2) && sameK ks ks') := by first | (simp [sameT, kindT, sgnT, limT, strT, nT, kidsT]; done) | (simp [sameT, kindT, sgnT, limT, strT, nT, kidsT]; rfl)
      rw [hr]
      by_cases g : i1 = i2
      · have g' : (i1 == i2) = true := beq_iff_eq.mpr g
        rw [decide_eq_true g, Bool.true_and]
        simp only [zaa, zab, zac, zad, zae, zaf, zag, zah, zai, zaj, zak, zal, zam, zan, zao, zap, zaq, zar, zas, zat, zau, zav, zaw, zax, zay, zaz, zba, zbb, zbc, zbd, zbe, zbf, zbg, zbh, zbi, zbj, zbk, zbl, zbm, zbn, zbo, zbp, zbq, Nat.reduceBEq, Bool.or_self, Bool.or_false, Bool.or_true, Bool.and_true, Bool.and_false, Bool.true_and, Bool.false_and, Option.isNone_none, Option.isNone_some, Option.isSome_some, Option.isSome_none, zbr, zbs, zbt, zbu, zbv, zbw, zbx, zby, zbz, zca, zcb, zcc, zcd, zce, zcf, zch, zci, zcl, zcm, zco, zcp, zcq, zcr, zcs, zct, zcu, zcv, zcw, zcx, zcy, zcz, zda, zdb, zdc, zdd, zde, zdf, zdg, zdh, zdi, zdj, zdk, zdl, zdm, zdn, zdo, zdp, zdq, zdr, zds, Option.getD_some, Option.getD_none, zfg, zfh, zfi, zfj, zfk, zfl, zfm, zfn, Option.map_some, Option.map_none, Option.bind_some, List.map_cons, List.map_nil, List.cons_append, List.nil_append, ↓reduceIte, Nat.reduceEqDiff, Nat.reduceAdd, decide_true, decide_false, Bool.true_eq_false, Bool.false_eq_true, env0, List.getElem?_cons_zero, List.getElem?_cons_succ, zdt, zdu, zdv, zdw, zdx, zdy, zdz, zea, ia22, ld31, zeb, zec, zed, zee, zef, zeg, zeh, zei, zej, zek, zel, zem, zen, zeo, zep, fa_0, fa_1, zeq, bd_0, bd_2, zer, fd_1, zes, Nat.zero_add, encT, cellsT, faT_0, faT_1, faT_2, faT_3, faT_4, ldT_0, ldT_1, ldT_2, ldT_3, ldT_4, Nat.reduceAdd, i_neqV, p1, i_eqlV, Int.reduceBEq, s_eqlS, zcg, g', den_loop]
        rw [zcj, zcg]
        exact K _ _ (by first | (simp only [zfn, ↓reduceIte, Nat.reduceEqDiff]; done) | (simp only [zfn, ↓reduceIte, Nat.reduceEqDiff]; rfl)) (by first | (simp only [zfn, ↓reduceIte, Nat.reduceEqDiff]; done) | (simp only [zfn, ↓reduceIte, Nat.reduceEqDiff]; rfl)) (by first | (simp only [zfn, ↓reduceIte, Nat.reduceEqDiff]; done) | (simp only [zfn, ↓reduceIte, Nat.reduceEqDiff]; rfl)) (by first | (simp only [zfn, ↓reduceIte, Nat.reduceEqDiff]; done) | (simp only [zfn, ↓reduceIte, Nat.reduceEqDiff]; rfl)) (by first | (simp only [zfn, ↓reduceIte, Nat.reduceEqDiff]; done) | (simp only [zfn, ↓reduceIte, Nat.reduceEqDiff]; rfl))
      · have g' : (i1 == i2) = false := beq_eq_false_iff_ne.mpr g
        rw [decide_eq_false g, Bool.false_and]
        simp only [zaa, zab, zac, zad, zae, zaf, zag, zah, zai, zaj, zak, zal, zam, zan, zao, zap, zaq, zar, zas, zat, zau, zav, zaw, zax, zay, zaz, zba, zbb, zbc, zbd, zbe, zbf, zbg, zbh, zbi, zbj, zbk, zbl, zbm, zbn, zbo, zbp, zbq, Nat.reduceBEq, Bool.or_self, Bool.or_false, Bool.or_true, Bool.and_true, Bool.and_false, Bool.true_and, Bool.false_and, Option.isNone_none, Option.isNone_some, Option.isSome_some, Option.isSome_none, zbr, zbs, zbt, zbu, zbv, zbw, zbx, zby, zbz, zca, zcb, zcc, zcd, zce, zcf, zcg, zch, zci, zcj, zck, zcl, zcm, zcn, zco, zcp, zcq, zcr, zcs, zct, zcu, zcv, zcw, zcx, zcy, zcz, zda, zdb, zdc, zdd, zde, zdf, zdg, zdh, zdi, zdj, zdk, zdl, zdm, zdn, zdo, zdp, zdq, zdr, zds, Option.getD_some, Option.getD_none, zfg, zfh, zfi, zfj, zfk, zfl, zfm, zfn, Option.map_some, Option.map_none, Option.bind_some, List.map_cons, List.map_nil, List.cons_append, List.nil_append, ↓reduceIte, Nat.reduceEqDiff, Nat.reduceAdd, decide_true, decide_false, Bool.true_eq_false, Bool.false_eq_true, env0, List.getElem?_cons_zero, List.getElem?_cons_succ, zdt, zdu, zdv, zdw, zdx, zdy, zdz, zea, ia22, ld31, zeb, zec, zed, zee, zef, zeg, zeh, zei, zej, zek, zel, zem, zen, zeo, zep, fa_0, fa_1, zeq, bd_0, bd_2, zer, fd_1, zes, Nat.zero_add, encT, cellsT, faT_0, faT_1, faT_2, faT_3, faT_4, ldT_0, ldT_1, ldT_2, ldT_3, ldT_4, Nat.reduceAdd, i_neqV, p1, i_eqlV, Int.reduceBEq, s_eqlS, g', unA_not', Bool.not_false]
        exact finish_b _ _ _ _ _ _ _ (by first | (simp only [zfn, ↓reduceIte, Nat.reduceEqDiff]; done) | (simp only [zfn, ↓reduceIte, Nat.reduceEqDiff]; rfl)) rfl
    have b7 : (k == 7) = false := beq_eq_false_iff_ne.mpr h7
    by_cases h4 : k = 4
    · subst h4
      have hr : sameT (.mk 4 n1 lg l s i1 kg ks) (.mk 4 n2 lg' l' s' i2 kg' ks') = (sameK ks ks') := by first | (simp [sameT, kindT, sgnT, limT, strT, nT, kidsT]; done) | (simp [sameT, kindT, sgnT, limT, strT, nT, kidsT]; rfl)
      rw [hr]
      simp only [zaa, zab, zac, zad, zae, zaf, zag, zah, zai, zaj, zak, zal, zam, zan, zao, zap, zaq, zar, zas, zat, zau, zav, zaw, zax, zay, zaz, zba, zbb, zbc, zbd, zbe, zbf, zbg, zbh, zbi, zbj, zbk, zbl, zbm, zbn, zbo, zbp, zbq, Nat.reduceBEq, Bool.or_self, Bool.or_false, Bool.or_true, Bool.and_true, Bool.and_false, Bool.true_and, Bool.false_and, Option.isNone_none, Option.isNone_some, Option.isSome_some, Option.isSome_none, zbr, zbs, zbt, zbu, zbv, zbw, zbx, zby, zbz, zca, zcb, zcc, zcd, zce, zcf, zch, zci, zcl, zcm, zco, zcp, zcq, zcr, zcs, zct, zcu, zcv, zcw, zcx, zcy, zcz, zda, zdb, zdc, zdd, zde, zdf, zdg, zdh, zdi, zdj, zdk, zdl, zdm, zdn, zdo, zdp, zdq, zdr, zds, Option.getD_some, Option.getD_none, zfg, zfh, zfi, zfj, zfk, zfl, zfm, zfn, Option.map_some, Option.map_none, Option.bind_some, List.map_cons, List.map_nil, List.cons_append, List.nil_append, ↓reduceIte, Nat.reduceEqDiff, Nat.reduceAdd, decide_true, decide_false, Bool.true_eq_false, Bool.false_eq_true, env0, List.getElem?_cons_zero, List.getElem?_cons_succ, zdt, zdu, zdv, zdw, zdx, zdy, zdz, zea, ia22, ld31, zeb, zec, zed, zee, zef, zeg, zeh, zei, zej, zek, zel, zem, zen, zeo, zep, fa_0, fa_1, zeq, bd_0, bd_2, zer, fd_1, zes, Nat.zero_add, encT, cellsT, faT_0, faT_1, faT_2, faT_3, faT_4, ldT_0, ldT_1, ldT_2, ldT_3, ldT_4, Nat.reduceAdd, i_neqV, p1, i_eqlV, Int.reduceBEq, s_eqlS, zcg, den_loop]
      rw [zcj, zcg]
      exact K _ _ (by first | (simp only [zfn, ↓reduceIte, Nat.reduceEqDiff]; done) | (simp only [zfn, ↓reduceIte, Nat.reduceEqDiff]; rfl)) (by first | (simp only [zfn, ↓reduceIte, Nat.reduceEqDiff]; done) | (simp only [zfn, ↓reduceIte, Nat.reduceEqDiff]; rfl)) (by first | (simp only [zfn, ↓reduceIte, Nat.reduceEqDiff]; done) | (simp only [zfn, ↓reduceIte, Nat.reduceEqDiff]; rfl)) (by first | (simp only [zfn, ↓reduceIte, Nat.reduceEqDiff]; done) | (simp only [zfn, ↓reduceIte, Nat.reduceEqDiff]; rfl)) (by first | (simp only [zfn, ↓reduceIte, Nat.reduceEqDiff]; done) | (simp only [zfn, ↓reduceIte, Nat.reduceEqDiff]; rfl))
    have b4 : (k == 4) = false := beq_eq_false_iff_ne.mpr h4
    by_cases h5 : k = 5
    · subst h5
      have hr : sameT (.mk 5 n1 lg l s i1 kg ks) (.mk 5 n2 lg' l' s' i2 kg' ks') = (sameK ks ks') := by first | (simp [sameT, kindT, sgnT, limT, strT, nT, kidsT]; done) | (simp [sameT, kindT, sgnT, limT, strT, nT, kidsT]; rfl)
      rw [hr]
      simp only [zaa, zab, zac, zad, zae, zaf, zag, zah, zai, zaj, zak, zal, zam, zan, zao, zap, zaq, zar, zas, zat, zau, zav, zaw, zax, zay, zaz, zba, zbb, zbc, zbd, zbe, zbf, zbg, zbh, zbi, zbj, zbk, zbl, zbm, zbn, zbo, zbp, zbq, Nat.reduceBEq, Bool.or_self, Bool.or_false, Bool.or_true, Bool.and_true, Bool.and_false, Bool.true_and, Bool.false_and, Option.isNone_none, Option.isNone_some, Option.isSome_some, Option.isSome_none, zbr, zbs, zbt, zbu, zbv, zbw, zbx, zby, zbz, zca, zcb, zcc, zcd, zce, zcf, zch, zci, zcl, zcm, zco, zcp, zcq, zcr, zcs, zct, zcu, zcv, zcw, zcx, zcy, zcz, zda, zdb, zdc, zdd, zde, zdf, zdg, zdh, zdi, zdj, zdk, zdl, zdm, zdn, zdo, zdp, zdq, zdr, zds, Option.getD_some, Option.getD_none, zfg, zfh, zfi, zfj, zfk, zfl, zfm, zfn, Option.map_some, Option.map_none, Option.bind_some, List.map_cons, List.map_nil, List.cons_append, List.nil_append, ↓reduceIte, Nat.reduceEqDiff, Nat.reduceAdd, decide_true, decide_false, Bool.true_eq_false, Bool.false_eq_true, env0, List.getElem?_cons_zero, List.getElem?_cons_succ, zdt, zdu, zdv, zdw, zdx, zdy, zdz, zea, ia22, ld31, zeb, zec, zed, zee, zef, zeg, zeh, zei, zej, zek, zel, zem, zen, zeo, zep, fa_0, fa_1, zeq, bd_0, bd_2, zer, fd_1, zes, Nat.zero_add, encT, cellsT, faT_0, faT_1, faT_2, faT_3, faT_4, ldT_0, ldT_1, ldT_2, ldT_3, ldT_4, Nat.reduceAdd, i_neqV, p1, i_eqlV, Int.reduceBEq, s_eqlS, zcg, den_loop]
      rw [zcj, zcg]
      exact K _ _ (by first | (simp only [zfn, ↓reduceIte, Nat.reduceEqDiff]; done) | (simp only [zfn, ↓reduceIte, Nat.reduceEqDiff]; rfl)) (by first | (simp only [zfn, ↓reduceIte, Nat.reduceEqDiff]; done) | (simp only [zfn, ↓reduceIte, Nat.reduceEqDiff]; rfl)) (by first | (simp only [zfn, ↓reduceIte, Nat.reduceEqDiff]; done) | (simp only [zfn, ↓reduceIte, Nat.reduceEqDiff]; rfl)) (by first | (simp only [zfn, ↓reduceIte, Nat.reduceEqDiff]; done) | (simp only [zfn, ↓reduceIte, Nat.reduceEqDiff]; rfl)) (by first | (simp only [zfn, ↓reduceIte, Nat.reduceEqDiff]; done) | (simp only [zfn, ↓reduceIte, Nat.reduceEqDiff]; rfl))
    have b5 : (k == 5) = false := beq_eq_false_iff_ne.mpr h5
    have hr : sameT (.mk k n1 lg l s i1 kg ks) (.mk k n2 lg' l' s' i2 kg' ks') = true := by first | (simp [sameT, kindT, sgnT, limT, strT, nT, kidsT, h1, h2, h4, h5, h6, h7, h8, h9]; done) | (simp [sameT, kindT, sgnT, limT, strT, nT, kidsT, h1, h2, h4, h5, h6, h7, h8, h9]; rfl)
    rw [hr]
    simp only [zaa, zab, zac, zad, zae, zaf, zag, zah, zai, zaj, zak, zal, zam, zan, zao, zap, zaq, zar, zas, zat, zau, zav, zaw, zax, zay, zaz, zba, zbb, zbc, zbd, zbe, zbf, zbg, zbh, zbi, zbj, zbk, zbl, zbm, zbn, zbo, zbp, zbq, Nat.reduceBEq, Bool.or_self, Bool.or_false, Bool.or_true, Bool.and_true, Bool.and_false, Bool.true_and, Bool.false_and, Option.isNone_none, Option.isNone_some, Option.isSome_some, Option.isSome_none, zbr, zbs, zbt, zbu, zbv, zbw, zbx, zby, zbz, zca, zcb, zcc, zcd, zce, zcf, zcg, zch, zci, zcj, zck, zcl, zcm, zcn, zco, zcp, zcq, zcr, zcs, zct, zcu, zcv, zcw, zcx, zcy, zcz, zda, zdb, zdc, zdd, zde, zdf, zdg, zdh, zdi, zdj, zdk, zdl, zdm, zdn, zdo, zdp, zdq, zdr, zds, Option.getD_some, Option.getD_none, zfg, zfh, zfi, zfj, zfk, zfl, zfm, zfn, Option.map_some, Option.map_none, Option.bind_some, List.map_cons, List.map_nil, List.cons_append, List.nil_append, ↓reduceIte, Nat.reduceEqDiff, Nat.reduceAdd, decide_true, decide_false, Bool.true_eq_false, Bool.false_eq_true, env0, List.getElem?_cons_zero, List.getElem?_cons_succ, zdt, zdu, zdv, zdw, zdx, zdy, zdz, zea, ia22, ld31, zeb, zec, zed, zee, zef, zeg, zeh, zei, zej, zek, zel, zem, zen, zeo, zep, fa_0, fa_1, zeq, bd_0, bd_2, zer, fd_1, zes, Nat.zero_add, encT, cellsT, faT_0, ldT_0, i_neqV, p1, i_eqlV, b1, b2, b4, b5, b6, b7, b8, b9]
    exact finish_b _ _ _ _ _ _ _ (by first | (simp only [zfn, ↓reduceIte, Nat.reduceEqDiff]; done) | (simp only [zfn, ↓reduceIte, Nat.reduceEqDiff]; rfl)) rfl
end Go.Ab

/- bif.number, bif.empty, bif.text; relictref03.List, relictlaw00.Proper. Conditions: lengths in range. -/
namespace Go.Ab
open Go.Proofs
set_option maxRecDepth 100000
set_option linter.unusedSimpArgs false

theorem bdN3 : buildA Tryz.prog 29 [(0, .int .i64 3)] = some (.agg (cellsT nilT')) := bdT_0 3
/-! ### Rows that are handed over -/
theorem Ap.lent {s : St} {d : Nat} {x : AV} {us : List T} (h : Ap s d x us) : isLent x = true ∧ loosen x = .sl (cellsK us) us.length (gr (kgOf us)) := by
  rcases h with ⟨rfl, rfl⟩ | ⟨hu, t, rfl, _⟩
  · exact ⟨rfl, rfl⟩
  · exact ⟨rfl, by simp only [loosen, kgOf, if_neg hu, gr]⟩
def one26 (x : AV) : Option AV := (fillA (fun i => some (i * 6, 6)) (rep 1 zeroT6) [(0, x)]).map (.sl · 1 .tight)
theorem one26_T (e : T) : one26 (.agg (cellsT e)) = some (.sl (cellsT e) 1 .tight) := bs1T e
theorem one26_K (e : T) : one26 (.agg (cellsT e)) = some (.sl (cellsK [e]) [e].length .tight) := by
  rw [one26_T]; simp [cellsK]
theorem opA_one26 (call : FuncId → List Arg → Option Out) (q : Bool) (d : Option Tmp) (ty : TypeId) (pos : String) (af : Array Edge) (g : Option (Nat × Bool)) (t : Nat) (env : Env) (s : St) (x : Operand) :
    opA Tryz.prog cfg0 call q ⟨d, .buildSlice 22 1 #[(0, x)], ty, pos, af, g⟩ t env s = (one26 (ev env x)).map (·, s) := by
  rw [opA_bs]
  simp only [tkTk, eszT, zeroT, Option.bind_some, List.map_cons, List.map_nil]
  rfl
end Go.Ab

/- The reference's Int, Neg, Bits; copies of numbers. Conditions: limbs in range. -/
namespace Go.Ab
open Go.Proofs
set_option maxRecDepth 100000
set_option linter.unusedSimpArgs false

end Go.Ab

/- The reference's Div. Conditions: limbs in range, not too many. -/
namespace Go.Ab
open Go.Proofs
set_option maxRecDepth 100000
set_option linter.unusedSimpArgs false

end Go.Ab

/- The reference's sums, products, quotients of numbers. Conditions: limbs in range. -/
namespace Go.Ab
open Go.Proofs
set_option maxRecDepth 100000
set_option linter.unusedSimpArgs false

section
variable (n d : Nat) (hn : 100000 ≤ n)
include hn
end
section
variable (n d : Nat) (hn : 100000 ≤ n) {w w' : AV} {z z' : Int} (hw : IsN w z) (hw' : IsN w' z')
include hn hw hw'
set_option maxHeartbeats 8000000
end
end Go.Ab

/- Bits of numbers with signs, as so many limbs: plain arithmetic. -/
namespace Go.Ab
end Go.Ab

/- Bits with all ones, with nought, with themselves: plain arithmetic. -/
namespace Go.Ab
section
variable (n x : Nat) (h : x < 2 ^ n)
include h
end
section
variable (z : Int) (h : z.natAbs < B ^ 12)
include h
end
end Go.Ab

/- And, or, exclusive or together, of numbers with room: plain arithmetic. -/
namespace Go.Ab
end Go.Ab

/- Bits of numbers below 0, in so many bits as have room. Pure mathematics. -/
namespace Go.Ab
end Go.Ab

/- The reference's bits of numbers. Pure mathematics. -/
namespace Go.Ab
def f3 (op : Nat) (p q : Bool) : Bool := if op = 6 then p && q else if op = 7 then p || q else !(p == q)
section
variable {N op : Nat} {a b : Int} (ha : a.natAbs < 2 ^ N) (hb : b.natAbs < 2 ^ N)
include ha hb
end
end Go.Ab

/- The reference's bits: and, or, exclusive or, bit by bit. Conditions: limbs in range. -/
namespace Go.Ab
open Go.Proofs
set_option maxRecDepth 100000
set_option linter.unusedSimpArgs false

end Go.Ab

/- The reference's bits: the walk. Conditions: limbs in range. -/
namespace Go.Ab
open Go.Proofs
set_option maxRecDepth 100000
set_option linter.unusedSimpArgs false

end Go.Ab

/- The reference's shifts, and how far. Conditions: limbs in range. -/
namespace Go.Ab
open Go.Proofs
set_option maxRecDepth 100000
set_option linter.unusedSimpArgs false

-- Down.
-- Up.
end Go.Ab

/- And, or, exclusive or of limbs; a number's bits. Conditions: numbers that are shown. -/
namespace Go.Ab
open Go.Proofs
set_option maxRecDepth 100000
set_option linter.unusedSimpArgs false

/-! ### bits -/
end Go.Ab

/- A number's bits. Conditions: numbers that are shown. -/
namespace Go.Ab
open Go.Proofs
set_option maxRecDepth 100000
set_option linter.unusedSimpArgs false

end Go.Ab

/- Logic of numbers. Conditions: numbers that are shown. -/
namespace Go.Ab
open Go.Proofs
set_option maxRecDepth 100000
set_option linter.unusedSimpArgs false

end Go.Ab

/- Op: logic; the statements' own way to call it. Conditions: numbers that are shown. -/
namespace Go.Ab
open Go.Proofs
set_option maxRecDepth 100000
set_option linter.unusedSimpArgs false
section
variable (n d : Nat) (hn : 100000 ≤ n) {w w' : AV} {z z' : Int} (hw : IsN w z) (hw' : IsN w' z')
include hn hw hw'
set_option maxHeartbeats 8000000
end
end Go.Ab

/- Op: shifts. Conditions: numbers that are shown. -/
namespace Go.Ab
open Go.Proofs
set_option maxRecDepth 100000
set_option linter.unusedSimpArgs false
section
variable (n d : Nat) (hn : 100000 ≤ n) {w w' : AV} {z z' : Int} (hw : IsN w z) (hw' : IsN w' z')
include hn hw hw'
set_option maxHeartbeats 8000000
end
end Go.Ab

/- The reference's Op, any op; the program's, of an op that is none. Conditions: limbs in range. -/
namespace Go.Ab
open Go.Proofs
set_option maxRecDepth 100000
set_option linter.unusedSimpArgs false

section
variable (n d : Nat) (hn : 100000 ≤ n) {w w' : AV} {z z' : Int} (hw : IsN w z) (hw' : IsN w' z')
include hn hw hw'
set_option maxHeartbeats 8000000
end
end Go.Ab

/- The statement NumRooms, abstractly. Conditions: an int. -/
namespace Go.Ab
open Go.Proofs
set_option maxRecDepth 100000
set_option linter.unusedSimpArgs false

end Go.Ab

/- Op, any op: the program's and the reference's give the same number. Conditions: numbers that are shown. -/
namespace Go.Ab
open Go.Proofs
set_option maxRecDepth 100000
set_option linter.unusedSimpArgs false

section
variable (n d : Nat) (hn : 100000 ≤ n) {w w' : AV} {z z' : Int} (hw : IsN w z) (hw' : IsN w' z')
include hn hw hw'
set_option maxHeartbeats 8000000
end
end Go.Ab

/- The number statements' own example, by the kernel's own reckoning. No conditions. -/
namespace Go.Ab
open Go.Proofs
end Go.Ab

/- The statement NumOrders, abstractly. Conditions: limbs in range. -/
namespace Go.Ab
open Go.Proofs
set_option maxRecDepth 100000
set_option linter.unusedSimpArgs false

end Go.Ab

/- The statement NumAll, abstractly. Conditions: limbs in range, an int in range. -/
namespace Go.Ab
open Go.Proofs
set_option maxRecDepth 100000
set_option linter.unusedSimpArgs false

end Go.Ab

/- Numbers as texts. Pure mathematics. -/
namespace Go.Ab
end Go.Ab

/- Strings: what the library's functions upon them give. Conditions: lengths in range. -/
namespace Go.Ab
open Go.Proofs
set_option maxRecDepth 100000
set_option linter.unusedSimpArgs false

end Go.Ab

/- strings.Trim by the digits. Conditions: lengths in range. -/
namespace Go.Ab
open Go.Proofs
set_option maxRecDepth 100000
set_option linter.unusedSimpArgs false

end Go.Ab

/- The statement NumInts, abstractly. Conditions: two ints. -/
namespace Go.Ab
open Go.Proofs
set_option maxRecDepth 100000
set_option linter.unusedSimpArgs false

section
variable (a b : Int)
variable (ha : a.natAbs ≤ 2147483648) (hb : b.natAbs ≤ 2147483648)
include ha hb
end
end Go.Ab

/- A number's text. Conditions: a number that is shown. -/
namespace Go.Ab
open Go.Proofs
set_option maxRecDepth 100000
set_option linter.unusedSimpArgs false

/-! ### Types -/
theorem tk64 : tkOf Tryz.prog 59 = .sl 9 := by kernel_rfl
theorem esz9 : esz Tryz.prog 9 = some 1 := by kernel_rfl
theorem zero9 : zeroOf Tryz.prog 9 = some [.str []] := by kernel_rfl
/-! ### Join -/
end Go.Ab

/- A number's text: the walk. Conditions: a number that is shown. -/
namespace Go.Ab
open Go.Proofs
set_option maxRecDepth 100000
set_option linter.unusedSimpArgs false

end Go.Ab

/- relictref03.List, relictlaw00.Proper; rows of ints that grow. Conditions: lengths in range. -/
namespace Go.Ab
open Go.Proofs
set_option maxRecDepth 100000
set_option linter.unusedSimpArgs false

def duo26 (x y : AV) : Option AV := (fillA (fun i => some (i * 6, 6)) (rep 2 [.int .i64 0, .bool false, .sl [] 0 .nil, .str [], .int .i64 0, .sl [] 0 .nil]) [(0, x), (1, y)]).map (.sl · 2 .tight)
theorem duo26_agg (a b c d e f a' b' c' d' e' f' : AV) : duo26 (.agg [a, b, c, d, e, f]) (.agg [a', b', c', d', e', f']) = some (.sl [a, b, c, d, e, f, a', b', c', d', e', f'] 2 .tight) := rfl
theorem opA_duo26 (call : FuncId → List Arg → Option Out) (q : Bool) (d : Option Tmp) (ty : TypeId) (pos : String) (af : Array Edge) (g : Option (Nat × Bool)) (t : Nat) (env : Env) (s : St) (x y : Operand) :
    opA Tryz.prog cfg0 call q ⟨d, .buildSlice 22 2 #[(0, x), (1, y)], ty, pos, af, g⟩ t env s = (duo26 (ev env x) (ev env y)).map (·, s) := by
  rw [opA_bs]
  simp only [tkTk, eszT, zeroT, Option.bind_some, List.map_cons, List.map_nil]
  rfl
theorem duo26_T (a b : T) : duo26 (.agg (cellsT a)) (.agg (cellsT b)) = some (.sl (cellsK [a, b]) 2 .tight) := by
  obtain ⟨k, b1, lg, l, s, m, kg, ks⟩ := a
  obtain ⟨k', b2, lg', l', s', m', kg', ks'⟩ := b
  simp only [cellsT, cellsK, List.append_nil, List.cons_append, List.nil_append]
  exact duo26_agg _ _ _ _ _ _ _ _ _ _ _ _
theorem bdT_cons (a b : T) : buildA Tryz.prog 29 [(0, .int .i64 4), (4, .sl (cellsK [a, b]) 2 .tight)] = some (.agg (cellsT (consT a b))) := bdT_4 4 _ _ .t
set_option maxHeartbeats 4000000 in
theorem rList_eq (n d : Nat) (ks : List T) (g : Grip) (t : T) (hn : ks.length < n) (hl : ks.length ≤ 1000000) : evalFn Tryz.prog cfg0 n (d+1) 16 [.tree (.sl (cellsK ks) ks.length g), .tree (encT t)] = some (.tree (encT (listT ks t)), [[], []]) := by
  rw [evalFn_go _ Tryz.func16 (by unfold Tryz.f16; rfl) (by unfold Tryz.f16; decide) (Nat.le_of_ble_eq_true (by unfold Tryz.f16; rfl)) (by kernel_rfl)]
  have f0 := i_sub Tryz.prog 3 (ks.length : Int) 1 (by omega) (by omega)
  simp only [zaa, zab, zac, zad, zae, zaf, zag, zah, zai, zaj, zak, zal, zam, zan, zao, zap, zaq, zar, zas, zat, zau, zav, zaw, zax, zay, zaz, zba, zbb, zbc, zbd, zbe, zbf, zbg, zbh, zbi, zbj, zbk, zbl, zbm, zbn, zbo, zbp, zbq, Nat.reduceBEq, Bool.or_self, Bool.or_false, Bool.or_true, Bool.and_true, Bool.and_false, Bool.true_and, Bool.false_and, Option.isNone_none, Option.isNone_some, Option.isSome_some, Option.isSome_none, zbr, zbs, zbt, zbu, zbv, zbw, zbx, zby, zbz, zca, zcb, zcc, zcd, zce, zcf, zcg, zch, zci, zcj, zck, zcl, zcm, zcn, zco, zcp, zcq, zcr, zcs, zct, zcu, zcv, zcw, zcx, zcy, zcz, zda, zdb, zdc, zdd, zde, zdf, zdg, zdh, zdi, zdj, zdk, zdl, zdm, zdn, zdo, zdp, zdq, zdr, zds, Option.getD_some, Option.getD_none, zfg, zfh, zfi, zfj, zfk, zfl, zfm, zfn, Option.map_some, Option.map_none, Option.bind_some, List.map_cons, List.map_nil, List.cons_append, List.nil_append, ↓reduceIte, Nat.reduceEqDiff, Nat.reduceAdd, decide_true, decide_false, Bool.true_eq_false, Bool.false_eq_true, env0, List.getElem?_cons_zero, List.getElem?_cons_succ, zdt, zdu, zdv, zdw, zdx, zdy, zdz, zea, ia22, ld31, zeb, zec, zed, zee, zef, zeg, zeh, zei, zej, zek, zel, zem, zen, zeo, zep, fa_0, fa_1, zeq, bd_0, bd_2, zer, fd_1, zes, Nat.zero_add, zeroT, encT, ldT_u, st_Tt, stT_6, lenTk, f0, den_loop]
  refine loop_ends (X := Nat) (fun j env s => env 0 = .sl (cellsK ks) ks.length g ∧ env 4 = .ptr 4 1 0 ∧ env 5 = .ptr 5 1 0 ∧ env 6 = .int .i64 ((j : Int) - 1) ∧ s 4 = ⟨1, .buf [.int .i64 0, .bool false, .sl [] 0 .nil, .str [], .int .i64 0, .sl [] 0 .nil]⟩ ∧ s 5 = ⟨1, .buf (cellsT (listT (ks.drop j) t))⟩ ∧ j ≤ ks.length) (fun j => j) (fun _ => (.tree (encT (listT ks t)), [[], []])) ?_ n ks.length _ _ (by omega) ⟨(by first | (simp only [zfn, ↓reduceIte, Nat.reduceEqDiff, env0, List.getElem?_cons_zero]; done) | (simp only [zfn, ↓reduceIte, Nat.reduceEqDiff, env0, List.getElem?_cons_zero]; rfl)), (by first | (simp only [zfn, ↓reduceIte, Nat.reduceEqDiff]; done) | (simp only [zfn, ↓reduceIte, Nat.reduceEqDiff]; rfl)), (by first | (simp only [zfn, ↓reduceIte, Nat.reduceEqDiff]; done) | (simp only [zfn, ↓reduceIte, Nat.reduceEqDiff]; rfl)), (by first | (simp only [zfn, ↓reduceIte, Nat.reduceEqDiff]; done) | (simp only [zfn, ↓reduceIte, Nat.reduceEqDiff]; rfl)), (by first | (simp only [zfn, ↓reduceIte, Nat.reduceEqDiff]; done) | (simp only [zfn, ↓reduceIte, Nat.reduceEqDiff]; rfl)), by rw [List.drop_length]; exact (by first | (simp only [zfn, ↓reduceIte, Nat.reduceEqDiff]; done) | (simp only [zfn, ↓reduceIte, Nat.reduceEqDiff]; rfl)), Nat.le_refl _⟩
  intro rr j hr ih env st ⟨e0, e4, e5, e6, j4, j5, hj⟩
  cases j with
  | zero =>
    have q1 : ¬ (((0 : Nat) : Int) - 1 ≥ 0) := by omega
    rw [List.drop_zero] at j5
    simp only [zaa, zab, zac, zad, zae, zaf, zag, zah, zai, zaj, zak, zal, zam, zan, zao, zap, zaq, zar, zas, zat, zau, zav, zaw, zax, zay, zaz, zba, zbb, zbc, zbd, zbe, zbf, zbg, zbh, zbi, zbj, zbk, zbl, zbm, zbn, zbo, zbp, zbq, Nat.reduceBEq, Bool.or_self, Bool.or_false, Bool.or_true, Bool.and_true, Bool.and_false, Bool.true_and, Bool.false_and, Option.isNone_none, Option.isNone_some, Option.isSome_some, Option.isSome_none, zbr, zbs, zbt, zbu, zbv, zbw, zbx, zby, zbz, zca, zcb, zcc, zcd, zce, zcf, zcg, zch, zci, zcj, zck, zcl, zcm, zcn, zco, zcp, zcq, zcr, zcs, zct, zcu, zcv, zcw, zcx, zcy, zcz, zda, zdb, zdc, zdd, zde, zdf, zdg, zdh, zdi, zdj, zdk, zdl, zdm, zdn, zdo, zdp, zdq, zdr, zds, Option.getD_some, Option.getD_none, zfg, zfh, zfi, zfj, zfk, zfl, zfm, zfn, Option.map_some, Option.map_none, Option.bind_some, List.map_cons, List.map_nil, List.cons_append, List.nil_append, ↓reduceIte, Nat.reduceEqDiff, Nat.reduceAdd, decide_true, decide_false, Bool.true_eq_false, Bool.false_eq_true, zdt, zdu, zdv, zdw, zdx, zdy, zdz, zea, ia22, ld31, zeb, zec, zed, zee, zef, zeg, zeh, zei, zej, zek, zel, zem, zen, zeo, zep, fa_0, fa_1, zeq, bd_0, bd_2, zer, fd_1, zes, Nat.zero_add, e0, e4, e5, e6, j4, j5, q1, ldT_u, st_Tt, stT_6]
    exact finish_cT _ _ _ _ _ (listT ks t) _ _ _ (by first | (simp only [zfn, ↓reduceIte, Nat.reduceEqDiff, e4]; done) | (simp only [zfn, ↓reduceIte, Nat.reduceEqDiff, e4]; rfl)) (by first | (simp only [zfn, ↓reduceIte, Nat.reduceEqDiff]; done) | (simp only [zfn, ↓reduceIte, Nat.reduceEqDiff]; rfl)) rfl
  | succ i =>
    have e6 : env 6 = .int .i64 (i : Int) := by rw [e6]; congr 1; omega
    have q1 : (i : Int) ≥ 0 := by omega
    have hil : i < ks.length := by omega
    have f5 := i_sub Tryz.prog 3 (i : Int) 1 (by omega) (by omega)
    have hd : ks.drop i = ks[i] :: ks.drop (i + 1) := List.drop_eq_getElem_cons hil
    have ia := fun st => ia_K st ks g i hil
    rw [hd] at ia
    have ld := fun st => ld_K st ks[i] (ks.drop (i + 1))
    simp only [encT] at ld
    simp only [zaa, zab, zac, zad, zae, zaf, zag, zah, zai, zaj, zak, zal, zam, zan, zao, zap, zaq, zar, zas, zat, zau, zav, zaw, zax, zay, zaz, zba, zbb, zbc, zbd, zbe, zbf, zbg, zbh, zbi, zbj, zbk, zbl, zbm, zbn, zbo, zbp, zbq, Nat.reduceBEq, Bool.or_self, Bool.or_false, Bool.or_true, Bool.and_true, Bool.and_false, Bool.true_and, Bool.false_and, Option.isNone_none, Option.isNone_some, Option.isSome_some, Option.isSome_none, zbr, zbs, zbt, zbu, zbv, zbw, zbx, zby, zbz, zca, zcb, zcc, zcd, zce, zcf, zcg, zch, zci, zcj, zck, zcl, zcm, zcn, zco, zcp, zcq, zcr, zcs, zct, zcu, zcv, zcw, zcx, zcy, zcz, zda, zdb, zdc, zdd, zde, zdf, zdg, zdh, zdi, zdj, zdk, zdl, zdm, zdn, zdo, zdp, zdq, zdr, zds, Option.getD_some, Option.getD_none, zfg, zfh, zfi, zfj, zfk, zfl, zfm, zfn, Option.map_some, Option.map_none, Option.bind_some, List.map_cons, List.map_nil, List.cons_append, List.nil_append, ↓reduceIte, Nat.reduceEqDiff, Nat.reduceAdd, decide_true, decide_false, Bool.true_eq_false, Bool.false_eq_true, zdt, zdu, zdv, zdw, zdx, zdy, zdz, zea, ia22, ld31, zeb, zec, zed, zee, zef, zeg, zeh, zei, zej, zek, zel, zem, zen, zeo, zep, fa_0, fa_1, zeq, bd_0, bd_2, zer, fd_1, zes, Nat.zero_add, e0, e4, e5, e6, j4, j5, q1, ia, ld, ldT_u, opA_duo26, duo26_T, bdT_cons, st_Tt, stT_u, f5]
    exact ih i _ _ (by omega) rfl ⟨(by first | (simp only [zfn, ↓reduceIte, Nat.reduceEqDiff, e0]; done) | (simp only [zfn, ↓reduceIte, Nat.reduceEqDiff, e0]; rfl)), (by first | (simp only [zfn, ↓reduceIte, Nat.reduceEqDiff, e4]; done) | (simp only [zfn, ↓reduceIte, Nat.reduceEqDiff, e4]; rfl)), (by first | (simp only [zfn, ↓reduceIte, Nat.reduceEqDiff, e5]; done) | (simp only [zfn, ↓reduceIte, Nat.reduceEqDiff, e5]; rfl)), (by first | (simp only [zfn, ↓reduceIte, Nat.reduceEqDiff]; done) | (simp only [zfn, ↓reduceIte, Nat.reduceEqDiff]; rfl)), (by first | (simp only [zfn, ↓reduceIte, Nat.reduceEqDiff, j4]; done) | (simp only [zfn, ↓reduceIte, Nat.reduceEqDiff, j4]; rfl)), by rw [hd]; exact (by first | (simp only [zfn, ↓reduceIte, Nat.reduceEqDiff]; done) | (simp only [zfn, ↓reduceIte, Nat.reduceEqDiff]; rfl)), by omega⟩
/-! ### Rows of ints -/
theorem tkI : tkOf Tryz.prog 56 = .sl 3 := by kernel_rfl
def ApI (s : St) (d : Nat) (x : AV) (us : List Int) : Prop := (us = [] ∧ x = .sl [] 0 .nil) ∨ (us ≠ [] ∧ ∃ t, x = .sl (intsA us) us.length (.tok d t) ∧ s d = ⟨t, .tok 1⟩)
theorem byI : decide (byOf Tryz.prog 3 ≤ 200) = true := by kernel_rfl
theorem zlI : (zeroOf Tryz.prog 3).map List.length = some 1 := by kernel_rfl
theorem intsA_len (us : List Int) : (intsA us).length = us.length := List.length_map _
theorem ApI.push {s : St} {d : Nat} {x : AV} {us : List Int} (h : ApI s d x us) (hl : us.length ≤ 1000000) (v : Int) :
    ∃ x' s', appendA Tryz.prog #[56, 56] d s x (.sl [.int .i64 v] 1 .tight) = some (x', s') ∧ ApI s' d x' (us ++ [v]) ∧ ∀ q, q ≠ d → s' q = s q := by
  have hb := of_decide_eq_true byI
  have hk : intsA (us ++ [v]) = intsA us ++ [.int .i64 v] := by simp [intsA]
  have hm : ∀ s, moreA Tryz.prog 3 1 (some 56) s (.sl [.int .i64 v] 1 .tight) = some ([.int .i64 v], 1) := fun s => by
    simp only [moreA, Option.map_some, tkI, List.length_cons, List.length_nil, Nat.one_mul, ↓reduceIte]
  have hc : (us.length + 1) * byOf Tryz.prog 3 ≤ 140737488355328 ∧ us.length + 1 ≤ 9223372036854775807 := by
    have : (us.length + 1) * byOf Tryz.prog 3 ≤ 1000001 * 200 := Nat.mul_le_mul (by omega) hb
    omega
  rcases h with ⟨rfl, rfl⟩ | ⟨_, t, rfl, hs⟩
  · refine ⟨_, upd s d ⟨(s d).t + 1, .tok 1⟩, ?_, .inr ⟨by simp, (s d).t + 1, rfl, upd_same _ _ _⟩, fun q hq => upd_ne _ _ hq⟩
    simp only [appendA, List.getElem?_toArray, List.getElem?_cons_zero, List.getElem?_cons_succ, Option.map_some, tkI, eszTi, Option.bind_some, hm, baseA, List.length_nil, Nat.zero_mul, ↓reduceIte, zlI, and_true]
    rw [if_pos (by simpa using hc)]
    simp [intsA]
  · refine ⟨_, upd (upd s d ⟨t, .dead⟩) d ⟨t + 1, .tok 1⟩, ?_, .inr ⟨by simp, t + 1, rfl, upd_same _ _ _⟩, fun q hq => (upd_ne _ _ hq).trans (upd_ne _ _ hq)⟩
    simp only [appendA, List.getElem?_toArray, List.getElem?_cons_zero, List.getElem?_cons_succ, Option.map_some, tkI, eszTi, Option.bind_some, hm, baseA, hs, intsA_len, Nat.mul_one, and_self, ↓reduceIte, zlI, and_true]
    rw [if_pos hc]
    simp only [upd_same, List.length_append, List.length_cons, List.length_nil, Nat.zero_add, hk]
def giOf (us : List Int) : Gk := if us = [] then .n else .l
theorem ApI.lent {s : St} {d : Nat} {x : AV} {us : List Int} (h : ApI s d x us) : isLent x = true ∧ loosen x = .sl (intsA us) us.length (gr (giOf us)) ∧ (isTree x = true → x = .sl (intsA us) us.length (gr (giOf us))) := by
  rcases h with ⟨rfl, rfl⟩ | ⟨hu, t, rfl, _⟩
  · exact ⟨rfl, rfl, fun _ => rfl⟩
  · exact ⟨rfl, by simp only [loosen, giOf, if_neg hu, gr], fun h => nomatch h⟩
theorem ApI.len {s : St} {d : Nat} {x : AV} {us : List Int} (h : ApI s d x us) (st : St) : lenA Tryz.prog 56 st x = some (.int .i64 (us.length : Int)) := by
  rcases h with ⟨rfl, rfl⟩ | ⟨hu, t, rfl, _⟩ <;> simp only [lenA, tkI] <;> rfl
end Go.Ab

/- bif.Call by these names: integer_to_list, atom_to_list, length. Conditions: so many nodes at most. -/
namespace Go.Ab
open Go.Proofs
set_option maxRecDepth 100000
set_option linter.unusedSimpArgs false

def sErl : List UInt8 := [101, 114, 108, 97, 110, 103]
def throws : List AV := [.str [101, 114, 114, 111, 114], .str [101, 120, 105, 116], .str [116, 104, 114, 111, 119]]
def three64 (a b c : AV) : Option AV := (fillA (fun i => some (i * 1, 1)) (rep 3 [.str []]) [(0, a), (1, b), (2, c)]).map (.sl · 3 .tight)
theorem three64_str (a b c : List UInt8) : three64 (.str a) (.str b) (.str c) = some (.sl [.str a, .str b, .str c] 3 .tight) := rfl
theorem opA_three64 (call : FuncId → List Arg → Option Out) (q : Bool) (d : Option Tmp) (ty : TypeId) (pos : String) (af : Array Edge) (g : Option (Nat × Bool)) (t : Nat) (env : Env) (s : St) (x1 x2 x3 : Operand) :
    opA Tryz.prog cfg0 call q ⟨d, .buildSlice 59 3 #[(0, x1), (1, x2), (2, x3)], ty, pos, af, g⟩ t env s = (three64 (ev env x1) (ev env x2) (ev env x3)).map (·, s) := by
  rw [opA_bs]
  simp only [tk64, esz9, zero9, Option.bind_some, List.map_cons, List.map_nil]
  rfl
/-! ### What is thrown, as a struct -/
def zErr : List AV := [.str [], .int .i64 0, .bool false, .sl [] 0 .nil, .str [], .int .i64 0, .sl [] 0 .nil]
theorem tkE : tkOf Tryz.prog 31 = .st := by kernel_rfl
theorem eszE : esz Tryz.prog 31 = some 7 := by kernel_rfl
theorem shE : shOf Tryz.prog 31 = some (true, 7) := by kernel_rfl
theorem zeroE : zeroOf Tryz.prog 31 = some zErr := by kernel_rfl
theorem plE : placesA Tryz.prog 31 = some [(0, 1), (1, 6)] := by kernel_rfl
theorem bdE_ : buildA Tryz.prog 31 [] = some (.agg zErr) := by
  simp only [buildA, zeroE, tkE, plE, Option.bind_some, fillA]; rfl
theorem st_E (s : St) (p k : Nat) : storeA Tryz.prog 31 s (.ptr p k 0) (.agg zErr) = stT (s p) p k s zErr := by
  simp only [storeA, settle, Option.bind_some, stT]
  cases h : s p with
  | mk t c => cases c <;> simp [eszE, zErr]
theorem stE_z (t k p : Nat) (s : St) : stT ⟨t, .buf zErr⟩ p k s zErr = if t = k then some (upd s p ⟨t, .buf zErr⟩) else none := by
  simp [stT, splice, zErr]
theorem ldE_z (t k : Nat) : ldE Tryz.prog 31 ⟨t, .buf zErr⟩ k 0 = if t = k then some (.agg zErr) else none := by
  rw [ldE, cellsE_buf]
  by_cases h : t = k
  · simp [h, partA, shE, zErr]
  · simp [h]
theorem finish_T2 (k : Bool) (xs : List Arg) (a p e : Nat) (u : T) (t : Nat) (v : Bool) (env : Env) (s : St) (os : List (List AV)) (ha : env a = .ptr p e 0) (hs : s p = ⟨e, .buf (cellsT u)⟩) (hv : env t = .bool v) (ho : outsA s 0 xs = some os) :
    finishP Tryz.prog k xs #[.cell a 29, .tmp t] env s = some (.tree (.tup [encT u, .bool v]), os) := by
  have hl : loadA Tryz.prog 29 s (env a) = some (.agg (cellsT u)) := by rw [ha, zek, hs, ldT_u, if_pos rfl]
  simp [finishP, isTmpR, rvA, hl, hv, settleL, settle, ho, encT]
theorem finish_T3 (k : Bool) (xs : List Arg) (a p e : Nat) (u : T) (b q e' : Nat) (t : Nat) (v : Bool) (env : Env) (s : St) (os : List (List AV)) (ha : env a = .ptr p e 0) (hs : s p = ⟨e, .buf (cellsT u)⟩) (hb : env b = .ptr q e' 0) (hq : s q = ⟨e', .buf zErr⟩) (hv : env t = .bool v) (ho : outsA s 0 xs = some os) :
    finishP Tryz.prog k xs #[.cell a 29, .cell b 31, .tmp t] env s = some (.tree (.tup [encT u, .agg zErr, .bool v]), os) := by
  have hl : loadA Tryz.prog 29 s (env a) = some (.agg (cellsT u)) := by rw [ha, zek, hs, ldT_u, if_pos rfl]
  have hl2 : loadA Tryz.prog 31 s (env b) = some (.agg zErr) := by rw [hb, zek, hq, ldE_z, if_pos rfl]
  simp [finishP, isTmpR, rvA, hl, hl2, hv, settleL, settle, ho, encT]
theorem ld_K1 (st : St) (t : T) (r : List T) : loadA Tryz.prog 29 st (.rptr (cellsK (t :: r))) = some (.agg (cellsT t)) := ld_K st t r
end Go.Ab

/- The statement TermLists. Conditions: limbs in range; texts in range. -/
namespace Go.Ab
open Go.Proofs
set_option maxRecDepth 100000
set_option linter.unusedSimpArgs false

mutual
theorem same_refl : ∀ t : T, sameT t t = true
  | .mk k b lg l s m kg ks => by
    have h := sameK_refl ks
    simp only [sameT, kindT, sgnT, limT, strT, nT, kidsT, ↓reduceIte, h, decide_true, Bool.and_self]
    repeat' split
    all_goals rfl
theorem sameK_refl : ∀ ks : List T, sameK ks ks = true
  | [] => by simp only [sameK]
  | t :: r => by simp only [sameK, same_refl t, sameK_refl r, Bool.and_self]
end
theorem itT_list : ∀ (ks : List T) (r : Nat) (acc : List T), ks.length < r → itT r (listT ks nilT') acc = some (acc ++ ks)
  | [], r, acc, h => by
    obtain ⟨r', rfl⟩ : ∃ r', r = r' + 1 := ⟨r - 1, by simp at h; omega⟩
    simp [listT, itT, nilT', kindT]
  | k :: ks, r, acc, h => by
    obtain ⟨r', rfl⟩ : ∃ r', r = r' + 1 := ⟨r - 1, by simp at h; omega⟩
    have h' := itT_list ks r' (acc ++ [k]) (by simp at h; omega)
    have e : itT (r' + 1) (listT (k :: ks) nilT') acc = itT r' (listT ks nilT') (acc ++ [k]) := rfl
    rw [e, h']
    simp
section
variable (R : Nat) (hR : 1000000 ≤ R) (hR2 : R ≤ 9223372036854775808) (ks : List T) (hl : ks.length ≤ 60) (n : Int)
include hR hl
end
end Go.Ab

/- What BifTexts compares: lists of a text's bytes. Conditions: lengths in range. -/
namespace Go.Ab
open Go.Proofs
set_option maxRecDepth 100000
set_option linter.unusedSimpArgs false

def isOkB : Option Out → Bool
  | some (.tree (.bool true), []) => true
  | _ => false
theorem isOkB_eq {o : Option Out} (h : isOkB o = true) : o = some (.tree (.bool true), []) := by
  unfold isOkB at h
  split at h
  · rfl
  · cases h
theorem awakeB_eq : evalFn Tryz.prog cfg0 100000 60 7 [] = some (.tree (.bool true), []) := isOkB_eq (by kernel_rfl)
end Go.Ab
