/- Several texts put together: AbzT17, AbzOp, AbzOp2, AbzT20, AbzT18, AbzT19, AbzR1, AbzR2, AbzR3, AbzR4, AbzR5, AbzR6, AbzR7, AbzR8, AbzR9, AbzA18, AbzT21, AbzT22. Conditions: as each part says. -/
import Derived.Test.YtpgnjcckmmkmkaaGreatDoorAbBOrdersZ06
import Derived.Test.YtpgnjcckmmkmkaaGreatDoorAbBOrdersZ04
import Derived.Test.YtpgnjcckmmkmkaaGreatDoorAbBOrdersZ05
import Derived.Test.YtpgnjcckmmkmkaaGreatDoorAbBOrdersZ03
/- The document's own check of terms, walked. Conditions: limbs in range; texts shorter than the rounds. -/
namespace Go.Ab
open Go.Proofs
set_option maxRecDepth 100000
set_option linter.unusedSimpArgs false

mutual
/-- Limbs in range, texts not too long, everywhere. -/
def bigT (R : Nat) : T → Prop
  | .mk _ _ _ l s _ _ ks => Limbs l ∧ s.length < R ∧ bigK R ks
def bigK (R : Nat) : List T → Prop
  | [] => True
  | t :: r => bigT R t ∧ bigK R r
end
theorem bigK_at (R : Nat) : ∀ (ks : List T) (i : Nat) (t : T) (r : List T), ks.drop i = t :: r → bigK R ks → bigT R t
  | [], i, t, r, h, _ => by simp at h
  | a :: q, 0, t, r, h, hw => by simp only [List.drop_zero, List.cons.injEq] at h; obtain ⟨rfl, rfl⟩ := h; simp only [bigK] at hw; exact hw.1
  | a :: q, i + 1, t, r, h, hw => by simp only [bigK] at hw; exact bigK_at R q i t r (by simpa using h) hw.2
mutual
def rwT : T → Int → Int → Int
  | .mk k b lg l s m kg ks, deep, n => if n + 1 > 2000 ∨ deep > 60 ∨ ownT (.mk k b lg l s m kg ks) = false then -1 else rwK k ks 0 deep (n + 1)
def rwK (k : Int) : List T → Nat → Int → Int → Int
  | [], _, _, n => n
  | t :: r, i, deep, n => if rwT t (if k = 4 ∧ i = 1 then deep else deep + 1) n < 0 then -1 else rwK k r (i + 1) deep (rwT t (if k = 4 ∧ i = 1 then deep else deep + 1) n)
end
mutual
theorem rwT_good (R : Nat) : ∀ (t : T) (deep n : Int), bigT R t → 0 ≤ n → 0 ≤ rwT t deep n → goodT t ∧ rwT t deep n = n + nodT t ∧ rwT t deep n ≤ 2000
  | .mk k b lg l s m kg ks, deep, n, hb, hn, h => by
    simp only [rwT, nodT] at h ⊢
    split at h
    · omega
    · rename_i hg
      have ho : ownT (.mk k b lg l s m kg ks) = true := by
        cases h0 : ownT (.mk k b lg l s m kg ks)
        · exact absurd (.inr (.inr h0)) hg
        · rfl
      simp only [hg, ↓reduceIte]
      simp only [bigT] at hb
      have := rwK_good R k ks 0 deep (n + 1) hb.2.2 (by omega) (by omega) h
      simp only [goodT]
      exact ⟨⟨hb.1, ho, this.1⟩, by omega, this.2.2⟩
theorem rwK_good (R : Nat) (k : Int) : ∀ (ks : List T) (i : Nat) (deep n : Int), bigK R ks → 0 ≤ n → n ≤ 2000 → 0 ≤ rwK k ks i deep n → goodK ks ∧ rwK k ks i deep n = n + nodK ks ∧ rwK k ks i deep n ≤ 2000
  | [], i, deep, n, _, hn, hn2, h => by simp only [rwK, goodK, nodK] at h ⊢; exact ⟨trivial, by omega, hn2⟩
  | t :: r, i, deep, n, hb, hn, hn2, h => by
    simp only [rwK, goodK, nodK, bigK] at h hb ⊢
    generalize (if k = 4 ∧ i = 1 then deep else deep + 1) = dd at h ⊢
    split at h
    · omega
    · rename_i hg
      have a := rwT_good R t dd n hb.1 hn (by omega)
      have b := rwK_good R k r (i + 1) deep _ hb.2 (by omega) (by omega) h
      simp only [hg, ↓reduceIte]
      exact ⟨⟨a.1, b.1⟩, by omega, b.2.2⟩
end
theorem callA_tii {cfg : Cfg} {call : FuncId → List Arg → Option Out} {D : Nat} {f : FuncId} {ys : List AV} {x z : Int} {r : AV} (hc : call f [.tree (.agg ys), .tree (.int .i64 x), .tree (.int .i64 z)] = some (.tree r, [[], [], []])) (s : St) :
    callA cfg call D s f [.agg ys, .int .i64 x, .int .i64 z] = some (r, s) := callA_trees (vs := [.agg ys, .int .i64 x, .int .i64 z]) rfl hc
set_option maxHeartbeats 32000000 in
theorem rwalk_eq (R : Nat) (hR : 100 ≤ R) (hR2 : R ≤ 9223372036854775808) : ∀ (N D : Nat) (t : T) (deep n : Int), 2001 - n ≤ N → N + 3 ≤ D → bigT R t → 0 ≤ deep → deep ≤ 1000 → 0 ≤ n → n ≤ 2000 →
    evalFn Tryz.prog cfg0 R D 42 [.tree (encT t), .tree (.int .i64 deep), .tree (.int .i64 n)] = some (.tree (.int .i64 (rwT t deep n)), [[], [], []])
  | 0, D, t, deep, n, h1, h2, h3, h4, h5, h6, h7 => by omega
  | N + 1, D, t, deep, n, h1, h2, h3, h4, h5, h6, h7 => by
    have IH := fun D h t deep n h1 h3 h4 h5 h6 h7 => rwalk_eq R hR hR2 N D t deep n h1 h h3 h4 h5 h6 h7
    obtain ⟨d, rfl⟩ : ∃ d, D = d + 4 := ⟨D - 4, by omega⟩
    rw [evalFn_go _ Tryz.func42 (by unfold Tryz.f42; rfl) (by unfold Tryz.f42; decide) (Nat.le_of_ble_eq_true (by unfold Tryz.f42; rfl)) (by kernel_rfl)]
    obtain ⟨k, b, lg, l, s, m, kg, ks⟩ := t
    simp only [bigT] at h3
    have f0 := i_add Tryz.prog 3 n 1 (by omega) (by omega)
    have co := fun D st => callA_trees (cfg := cfg0) (d := D) (s := st) (f := 68) (vs := [encT (.mk k b lg l s m kg ks)]) rfl (fields_eq R (d+1) k b lg l h3.1 s h3.2.1 (by omega) m kg ks)
    simp only [encT, cellsT] at co
    by_cases g1 : n + 1 > 2000
    · have hr : rwT (.mk k b lg l s m kg ks) deep n = -1 := by simp only [rwT]; exact if_pos (.inl g1)
      rw [hr]
      simp only [zaa, zab, zac, zad, zae, zaf, zag, zah, zai, zaj, zak, zal, zam, zan, zao, zap, zaq, zar, zas, zat, zau, zav, zaw, zax, zay, zaz, zba, zbb, zbc, zbd, zbe, zbf, zbg, zbh, zbi, zbj, zbk, zbl, zbm, zbn, zbo, zbp, zbq, Nat.reduceBEq, Bool.or_self, Bool.or_false, Bool.or_true, Bool.and_true, Bool.and_false, Bool.true_and, Bool.false_and, Option.isNone_none, Option.isNone_some, Option.isSome_some, Option.isSome_none, zbr, zbs, zbt, zbu, zbv, zbw, zbx, zby, zbz, zca, zcb, zcc, zcd, zce, zcf, zcg, zch, zci, zcj, zck, zcl, zcm, zcn, zco, zcp, zcq, zcr, zcs, zct, zcu, zcv, zcw, zcx, zcy, zcz, zda, zdb, zdc, zdd, zde, zdf, zdg, zdh, zdi, zdj, zdk, zdl, zdm, zdn, zdo, zdp, zdq, zdr, zds, Option.getD_some, Option.getD_none, zfg, zfh, zfi, zfj, zfk, zfl, zfm, zfn, Option.map_some, Option.map_none, Option.bind_some, List.map_cons, List.map_nil, List.cons_append, List.nil_append, ↓reduceIte, Nat.reduceEqDiff, Nat.reduceAdd, decide_true, decide_false, Bool.true_eq_false, Bool.false_eq_true, env0, List.getElem?_cons_zero, List.getElem?_cons_succ, zdt, zdu, zdv, zdw, zdx, zdy, zdz, zea, ia22, ld31, zeb, zec, zed, zee, zef, zeg, zeh, zei, zej, zek, zel, zem, zen, zeo, zep, fa_0, fa_1, zeq, bd_0, bd_2, zer, fd_1, zes, Nat.zero_add, encT, cellsT, f0, g1]
      exact finish_i _ _ _ _ _ _ _ (by first | (simp only [zfn, ↓reduceIte, Nat.reduceEqDiff]; done) | (simp only [zfn, ↓reduceIte, Nat.reduceEqDiff]; rfl)) rfl
    by_cases g2 : deep > 60
    · have hr : rwT (.mk k b lg l s m kg ks) deep n = -1 := by simp only [rwT]; exact if_pos (.inr (.inl g2))
      rw [hr]
      simp only [zaa, zab, zac, zad, zae, zaf, zag, zah, zai, zaj, zak, zal, zam, zan, zao, zap, zaq, zar, zas, zat, zau, zav, zaw, zax, zay, zaz, zba, zbb, zbc, zbd, zbe, zbf, zbg, zbh, zbi, zbj, zbk, zbl, zbm, zbn, zbo, zbp, zbq, Nat.reduceBEq, Bool.or_self, Bool.or_false, Bool.or_true, Bool.and_true, Bool.and_false, Bool.true_and, Bool.false_and, Option.isNone_none, Option.isNone_some, Option.isSome_some, Option.isSome_none, zbr, zbs, zbt, zbu, zbv, zbw, zbx, zby, zbz, zca, zcb, zcc, zcd, zce, zcf, zcg, zch, zci, zcj, zck, zcl, zcm, zcn, zco, zcp, zcq, zcr, zcs, zct, zcu, zcv, zcw, zcx, zcy, zcz, zda, zdb, zdc, zdd, zde, zdf, zdg, zdh, zdi, zdj, zdk, zdl, zdm, zdn, zdo, zdp, zdq, zdr, zds, Option.getD_some, Option.getD_none, zfg, zfh, zfi, zfj, zfk, zfl, zfm, zfn, Option.map_some, Option.map_none, Option.bind_some, List.map_cons, List.map_nil, List.cons_append, List.nil_append, ↓reduceIte, Nat.reduceEqDiff, Nat.reduceAdd, decide_true, decide_false, Bool.true_eq_false, Bool.false_eq_true, env0, List.getElem?_cons_zero, List.getElem?_cons_succ, zdt, zdu, zdv, zdw, zdx, zdy, zdz, zea, ia22, ld31, zeb, zec, zed, zee, zef, zeg, zeh, zei, zej, zek, zel, zem, zen, zeo, zep, fa_0, fa_1, zeq, bd_0, bd_2, zer, fd_1, zes, Nat.zero_add, encT, cellsT, f0, g1, g2]
      exact finish_i _ _ _ _ _ _ _ (by first | (simp only [zfn, ↓reduceIte, Nat.reduceEqDiff]; done) | (simp only [zfn, ↓reduceIte, Nat.reduceEqDiff]; rfl)) rfl
    cases g3 : ownT (.mk k b lg l s m kg ks) with
    | false =>
      have hr : rwT (.mk k b lg l s m kg ks) deep n = -1 := by simp only [rwT]; exact if_pos (.inr (.inr g3))
      rw [hr]
      rw [g3] at co
      simp only [zaa, zab, zac, zad, zae, zaf, zag, zah, zai, zaj, zak, zal, zam, zan, zao, zap, zaq, zar, zas, zat, zau, zav, zaw, zax, zay, zaz, zba, zbb, zbc, zbd, zbe, zbf, zbg, zbh, zbi, zbj, zbk, zbl, zbm, zbn, zbo, zbp, zbq, Nat.reduceBEq, Bool.or_self, Bool.or_false, Bool.or_true, Bool.and_true, Bool.and_false, Bool.true_and, Bool.false_and, Option.isNone_none, Option.isNone_some, Option.isSome_some, Option.isSome_none, zbr, zbs, zbt, zbu, zbv, zbw, zbx, zby, zbz, zca, zcb, zcc, zcd, zce, zcf, zcg, zch, zci, zcj, zck, zcl, zcm, zcn, zco, zcp, zcq, zcr, zcs, zct, zcu, zcv, zcw, zcx, zcy, zcz, zda, zdb, zdc, zdd, zde, zdf, zdg, zdh, zdi, zdj, zdk, zdl, zdm, zdn, zdo, zdp, zdq, zdr, zds, Option.getD_some, Option.getD_none, zfg, zfh, zfi, zfj, zfk, zfl, zfm, zfn, Option.map_some, Option.map_none, Option.bind_some, List.map_cons, List.map_nil, List.cons_append, List.nil_append, ↓reduceIte, Nat.reduceEqDiff, Nat.reduceAdd, decide_true, decide_false, Bool.true_eq_false, Bool.false_eq_true, env0, List.getElem?_cons_zero, List.getElem?_cons_succ, zdt, zdu, zdv, zdw, zdx, zdy, zdz, zea, ia22, ld31, zeb, zec, zed, zee, zef, zeg, zeh, zei, zej, zek, zel, zem, zen, zeo, zep, fa_0, fa_1, zeq, bd_0, bd_2, zer, fd_1, zes, Nat.zero_add, encT, cellsT, ldT_a, f0, g1, g2, co, unA_not', Bool.not_false]
      exact finish_i _ _ _ _ _ _ _ (by first | (simp only [zfn, ↓reduceIte, Nat.reduceEqDiff]; done) | (simp only [zfn, ↓reduceIte, Nat.reduceEqDiff]; rfl)) rfl
    | true =>
      rw [g3] at co
      have hg : ¬ (n + 1 > 2000 ∨ deep > 60 ∨ ownT (.mk k b lg l s m kg ks) = false) := by rw [g3]; simp only [g1, g2, false_or]; decide
      have hr : rwT (.mk k b lg l s m kg ks) deep n = rwK k ks 0 deep (n + 1) := by simp only [rwT]; exact if_neg hg
      rw [hr]
      have hks : ks.length ≤ 40 := by
        have := g3
        simp only [ownT, Bool.and_eq_true, decide_eq_true_eq] at this
        have h5 := this.2.1.2
        by_cases k4 : k = 4
        · rw [if_pos k4, decide_eq_true_eq] at h5; omega
        · rw [if_neg k4] at h5
          by_cases k5 : k = 5
          · rw [if_pos k5, decide_eq_true_eq] at h5; exact h5
          · rw [if_neg k5, decide_eq_true_eq] at h5; omega
      simp only [zaa, zab, zac, zad, zae, zaf, zag, zah, zai, zaj, zak, zal, zam, zan, zao, zap, zaq, zar, zas, zat, zau, zav, zaw, zax, zay, zaz, zba, zbb, zbc, zbd, zbe, zbf, zbg, zbh, zbi, zbj, zbk, zbl, zbm, zbn, zbo, zbp, zbq, Nat.reduceBEq, Bool.or_self, Bool.or_false, Bool.or_true, Bool.and_true, Bool.and_false, Bool.true_and, Bool.false_and, Option.isNone_none, Option.isNone_some, Option.isSome_some, Option.isSome_none, zbr, zbs, zbt, zbu, zbv, zbw, zbx, zby, zbz, zca, zcb, zcc, zcd, zce, zcf, zcg, zch, zci, zcj, zck, zcl, zcm, zcn, zco, zcp, zcq, zcr, zcs, zct, zcu, zcv, zcw, zcx, zcy, zcz, zda, zdb, zdc, zdd, zde, zdf, zdg, zdh, zdi, zdj, zdk, zdl, zdm, zdn, zdo, zdp, zdq, zdr, zds, Option.getD_some, Option.getD_none, zfg, zfh, zfi, zfj, zfk, zfl, zfm, zfn, Option.map_some, Option.map_none, Option.bind_some, List.map_cons, List.map_nil, List.cons_append, List.nil_append, ↓reduceIte, Nat.reduceEqDiff, Nat.reduceAdd, decide_true, decide_false, Bool.true_eq_false, Bool.false_eq_true, env0, List.getElem?_cons_zero, List.getElem?_cons_succ, zdt, zdu, zdv, zdw, zdx, zdy, zdz, zea, ia22, ld31, zeb, zec, zed, zee, zef, zeg, zeh, zei, zej, zek, zel, zem, zen, zeo, zep, fa_0, fa_1, zeq, bd_0, bd_2, zer, fd_1, zes, Nat.zero_add, encT, cellsT, ldT_a, f0, g1, g2, co, unA_not', Bool.not_true, den_loop]
      generalize hV : rwK k ks 0 deep (n + 1) = V
      refine loop_ends (X := Nat × Int) (fun x env st => env 1 = .int .i64 deep ∧ env 2 = .int .i64 x.2 ∧ env 3 = .ptr 3 1 0 ∧ env 7 = .int .i64 (x.1 : Int) ∧ st 3 = ⟨1, .buf (cellsT (.mk k b lg l s m kg ks))⟩ ∧ x.1 ≤ ks.length ∧ n + 1 ≤ x.2 ∧ x.2 ≤ 2000 ∧ rwK k (ks.drop x.1) x.1 deep x.2 = V) (fun x => ks.length - x.1) (fun _ => (.tree (.int .i64 V), [[], [], []])) ?_ R (0, n + 1) _ _ (by simp only; omega) ⟨(by first | (simp only [zfn, ↓reduceIte, Nat.reduceEqDiff, env0, List.getElem?_cons_zero, List.getElem?_cons_succ]; done) | (simp only [zfn, ↓reduceIte, Nat.reduceEqDiff, env0, List.getElem?_cons_zero, List.getElem?_cons_succ]; rfl)), (by first | (simp only [zfn, ↓reduceIte, Nat.reduceEqDiff]; done) | (simp only [zfn, ↓reduceIte, Nat.reduceEqDiff]; rfl)), (by first | (simp only [zfn, ↓reduceIte, Nat.reduceEqDiff]; done) | (simp only [zfn, ↓reduceIte, Nat.reduceEqDiff]; rfl)), (by first | (simp only [zfn, ↓reduceIte, Nat.reduceEqDiff]; done) | (simp only [zfn, ↓reduceIte, Nat.reduceEqDiff]; rfl)), by simp only [cellsT]; exact (by first | (simp only [zfn, ↓reduceIte, Nat.reduceEqDiff]; done) | (simp only [zfn, ↓reduceIte, Nat.reduceEqDiff]; rfl)), Nat.zero_le _, by simp only; omega, by simp only; omega, hV⟩
      rintro rr ⟨i, v⟩ hrr ih env st ⟨e1, e2, e3, e7, j3, hi, hv0, hv1, hc⟩
      simp only at e2 e7 hi hv0 hv1 hc
      simp only [cellsT] at j3
      cases hd : ks.drop i with
      | nil =>
        have hil : i = ks.length := by have := congrArg List.length hd; simp only [List.length_drop, List.length_nil] at this; omega
        rw [hd] at hc
        simp only [rwK] at hc
        rw [← hc]
        have q1 : ¬ ((i : Int) < (ks.length : Int)) := by omega
        simp only [zaa, zab, zac, zad, zae, zaf, zag, zah, zai, zaj, zak, zal, zam, zan, zao, zap, zaq, zar, zas, zat, zau, zav, zaw, zax, zay, zaz, zba, zbb, zbc, zbd, zbe, zbf, zbg, zbh, zbi, zbj, zbk, zbl, zbm, zbn, zbo, zbp, zbq, Nat.reduceBEq, Bool.or_self, Bool.or_false, Bool.or_true, Bool.and_true, Bool.and_false, Bool.true_and, Bool.false_and, Option.isNone_none, Option.isNone_some, Option.isSome_some, Option.isSome_none, zbr, zbs, zbt, zbu, zbv, zbw, zbx, zby, zbz, zca, zcb, zcc, zcd, zce, zcf, zcg, zch, zci, zcj, zck, zcl, zcm, zcn, zco, zcp, zcq, zcr, zcs, zct, zcu, zcv, zcw, zcx, zcy, zcz, zda, zdb, zdc, zdd, zde, zdf, zdg, zdh, zdi, zdj, zdk, zdl, zdm, zdn, zdo, zdp, zdq, zdr, zds, Option.getD_some, Option.getD_none, zfg, zfh, zfi, zfj, zfk, zfl, zfm, zfn, Option.map_some, Option.map_none, Option.bind_some, List.map_cons, List.map_nil, List.cons_append, List.nil_append, ↓reduceIte, Nat.reduceEqDiff, Nat.reduceAdd, decide_true, decide_false, Bool.true_eq_false, Bool.false_eq_true, zdt, zdu, zdv, zdw, zdx, zdy, zdz, zea, ia22, ld31, zeb, zec, zed, zee, zef, zeg, zeh, zei, zej, zek, zel, zem, zen, zeo, zep, fa_0, fa_1, zeq, bd_0, bd_2, zer, fd_1, zes, Nat.zero_add, e1, e2, e3, e7, j3, faT_4, ldT_4, lenTk, q1]
        exact finish_i _ _ _ _ _ _ _ (by first | (simp only [zfn, ↓reduceIte, Nat.reduceEqDiff]; done) | (simp only [zfn, ↓reduceIte, Nat.reduceEqDiff]; rfl)) rfl
      | cons kid r =>
        have hil : i < ks.length := by have := congrArg List.length hd; simp only [List.length_drop, List.length_cons] at this; omega
        rw [hd] at hc
        simp only [rwK] at hc
        have q1 : (i : Int) < (ks.length : Int) := by omega
        have f5 := i_add Tryz.prog 3 (i : Int) 1 (by omega) (by omega)
        have f6 := i_add Tryz.prog 3 deep 1 (by omega) (by omega)
        have kb := bigK_at R ks i kid r hd h3.2.2
        have ia := fun st => ia_K st ks (gr kg) i hil
        rw [hd] at ia
        have ld := fun st => ld_K st kid r
        simp only [encT] at ld
        by_cases hk1 : k = 4 ∧ i = 1
        · rw [if_pos hk1] at hc
          obtain ⟨rfl, rfl⟩ := hk1
          have b4 : ((4 : Int) == 4) = true := rfl
          have b1 : (((1 : Nat) : Int) == 1) = true := rfl
          have cc := fun D => callA_tii (cfg := cfg0) (D := D) (IH (d+3) (by omega) kid deep v (by omega) kb (by omega) (by omega) (by omega) (by omega))
          by_cases hx : rwT kid deep v < 0
          · rw [if_pos hx] at hc
            rw [← hc]
            simp only [zaa, zab, zac, zad, zae, zaf, zag, zah, zai, zaj, zak, zal, zam, zan, zao, zap, zaq, zar, zas, zat, zau, zav, zaw, zax, zay, zaz, zba, zbb, zbc, zbd, zbe, zbf, zbg, zbh, zbi, zbj, zbk, zbl, zbm, zbn, zbo, zbp, zbq, Nat.reduceBEq, Bool.or_self, Bool.or_false, Bool.or_true, Bool.and_true, Bool.and_false, Bool.true_and, Bool.false_and, Option.isNone_none, Option.isNone_some, Option.isSome_some, Option.isSome_none, zbr, zbs, zbt, zbu, zbv, zbw, zbx, zby, zbz, zca, zcb, zcc, zcd, zce, zcf, zcg, zch, zci, zcj, zck, zcl, zcm, zcn, zco, zcp, zcq, zcr, zcs, zct, zcu, zcv, zcw, zcx, zcy, zcz, zda, zdb, zdc, zdd, zde, zdf, zdg, zdh, zdi, zdj, zdk, zdl, zdm, zdn, zdo, zdp, zdq, zdr, zds, Option.getD_some, Option.getD_none, zfg, zfh, zfi, zfj, zfk, zfl, zfm, zfn, Option.map_some, Option.map_none, Option.bind_some, List.map_cons, List.map_nil, List.cons_append, List.nil_append, ↓reduceIte, Nat.reduceEqDiff, Nat.reduceAdd, decide_true, decide_false, Bool.true_eq_false, Bool.false_eq_true, zdt, zdu, zdv, zdw, zdx, zdy, zdz, zea, ia22, ld31, zeb, zec, zed, zee, zef, zeg, zeh, zei, zej, zek, zel, zem, zen, zeo, zep, fa_0, fa_1, zeq, bd_0, bd_2, zer, fd_1, zes, Nat.zero_add, e1, e2, e3, e7, j3, faT_0, faT_4, ldT_0, ldT_4, lenTk, q1, f6, i_eqlV, b4, b1, ia, ld, cc, hx]
            exact finish_i _ _ _ _ _ _ _ (by first | (simp only [zfn, ↓reduceIte, Nat.reduceEqDiff]; done) | (simp only [zfn, ↓reduceIte, Nat.reduceEqDiff]; rfl)) rfl
          · rw [if_neg hx] at hc
            have hgd := rwT_good R kid deep v kb (by omega) (by omega)
            have := nod_pos kid
            simp only [zaa, zab, zac, zad, zae, zaf, zag, zah, zai, zaj, zak, zal, zam, zan, zao, zap, zaq, zar, zas, zat, zau, zav, zaw, zax, zay, zaz, zba, zbb, zbc, zbd, zbe, zbf, zbg, zbh, zbi, zbj, zbk, zbl, zbm, zbn, zbo, zbp, zbq, Nat.reduceBEq, Bool.or_self, Bool.or_false, Bool.or_true, Bool.and_true, Bool.and_false, Bool.true_and, Bool.false_and, Option.isNone_none, Option.isNone_some, Option.isSome_some, Option.isSome_none, zbr, zbs, zbt, zbu, zbv, zbw, zbx, zby, zbz, zca, zcb, zcc, zcd, zce, zcf, zcg, zch, zci, zcj, zck, zcl, zcm, zcn, zco, zcp, zcq, zcr, zcs, zct, zcu, zcv, zcw, zcx, zcy, zcz, zda, zdb, zdc, zdd, zde, zdf, zdg, zdh, zdi, zdj, zdk, zdl, zdm, zdn, zdo, zdp, zdq, zdr, zds, Option.getD_some, Option.getD_none, zfg, zfh, zfi, zfj, zfk, zfl, zfm, zfn, Option.map_some, Option.map_none, Option.bind_some, List.map_cons, List.map_nil, List.cons_append, List.nil_append, ↓reduceIte, Nat.reduceEqDiff, Nat.reduceAdd, decide_true, decide_false, Bool.true_eq_false, Bool.false_eq_true, zdt, zdu, zdv, zdw, zdx, zdy, zdz, zea, ia22, ld31, zeb, zec, zed, zee, zef, zeg, zeh, zei, zej, zek, zel, zem, zen, zeo, zep, fa_0, fa_1, zeq, bd_0, bd_2, zer, fd_1, zes, Nat.zero_add, e1, e2, e3, e7, j3, faT_0, faT_4, ldT_0, ldT_4, lenTk, q1, f6, i_eqlV, b4, b1, ia, ld, cc, hx, f5]
            exact ih (1 + 1, rwT kid deep v) _ _ (by simp only; omega) rfl ⟨(by first | (simp only [zfn, ↓reduceIte, Nat.reduceEqDiff, e1]; done) | (simp only [zfn, ↓reduceIte, Nat.reduceEqDiff, e1]; rfl)), (by first | (simp only [zfn, ↓reduceIte, Nat.reduceEqDiff]; done) | (simp only [zfn, ↓reduceIte, Nat.reduceEqDiff]; rfl)), (by first | (simp only [zfn, ↓reduceIte, Nat.reduceEqDiff, e3]; done) | (simp only [zfn, ↓reduceIte, Nat.reduceEqDiff, e3]; rfl)), (by first | (simp only [zfn, ↓reduceIte, Nat.reduceEqDiff]; done) | (simp only [zfn, ↓reduceIte, Nat.reduceEqDiff]; rfl)), by simp only [cellsT]; exact (by first | (simp only [zfn, ↓reduceIte, Nat.reduceEqDiff, j3]; done) | (simp only [zfn, ↓reduceIte, Nat.reduceEqDiff, j3]; rfl)), by simp only; omega, by simp only; omega, by simp only; omega, by simp only; rw [drop_next hd]; exact hc⟩
        · rw [if_neg hk1] at hc
          have cc := fun D => callA_tii (cfg := cfg0) (D := D) (IH (d+3) (by omega) kid (deep + 1) v (by omega) kb (by omega) (by omega) (by omega) (by omega))
          have hbb : (k == 4) = true ∧ ((i : Int) == 1) = false ∨ (k == 4) = false := by
            by_cases k4 : k = 4
            · refine .inl ⟨beq_iff_eq.mpr k4, beq_eq_false_iff_ne.mpr fun e => hk1 ⟨k4, by omega⟩⟩
            · exact .inr (beq_eq_false_iff_ne.mpr k4)
          by_cases hx : rwT kid (deep + 1) v < 0
          · rw [if_pos hx] at hc
            rw [← hc]
            rcases hbb with ⟨b4, b1⟩ | b4
            · simp only [zaa, zab, zac, zad, zae, zaf, zag, zah, zai, zaj, zak, zal, zam, zan, zao, zap, zaq, zar, zas, zat, zau, zav, zaw, zax, zay, zaz, zba, zbb, zbc, zbd, zbe, zbf, zbg, zbh, zbi, zbj, zbk, zbl, zbm, zbn, zbo, zbp, zbq, Nat.reduceBEq, Bool.or_self, Bool.or_false, Bool.or_true, Bool.and_true, Bool.and_false, Bool.true_and, Bool.false_and, Option.isNone_none, Option.isNone_some, Option.isSome_some, Option.isSome_none, zbr, zbs, zbt, zbu, zbv, zbw, zbx, zby, zbz, zca, zcb, zcc, zcd, zce, zcf, zcg, zch, zci, zcj, zck, zcl, zcm, zcn, zco, zcp, zcq, zcr, zcs, zct, zcu, zcv, zcw, zcx, zcy, zcz, zda, zdb, zdc, zdd, zde, zdf, zdg, zdh, zdi, zdj, zdk, zdl, zdm, zdn, zdo, zdp, zdq, zdr, zds, Option.getD_some, Option.getD_none, zfg, zfh, zfi, zfj, zfk, zfl, zfm, zfn, Option.map_some, Option.map_none, Option.bind_some, List.map_cons, List.map_nil, List.cons_append, List.nil_append, ↓reduceIte, Nat.reduceEqDiff, Nat.reduceAdd, decide_true, decide_false, Bool.true_eq_false, Bool.false_eq_true, zdt, zdu, zdv, zdw, zdx, zdy, zdz, zea, ia22, ld31, zeb, zec, zed, zee, zef, zeg, zeh, zei, zej, zek, zel, zem, zen, zeo, zep, fa_0, fa_1, zeq, bd_0, bd_2, zer, fd_1, zes, Nat.zero_add, e1, e2, e3, e7, j3, faT_0, faT_4, ldT_0, ldT_4, lenTk, q1, f6, i_eqlV, b4, b1, ia, ld, cc, hx]
              exact finish_i _ _ _ _ _ _ _ (by first | (simp only [zfn, ↓reduceIte, Nat.reduceEqDiff]; done) | (simp only [zfn, ↓reduceIte, Nat.reduceEqDiff]; rfl)) rfl
            · simp only [zaa, zab, zac, zad, zae, zaf, zag, zah, zai, zaj, zak, zal, zam, zan, zao, zap, zaq, zar, zas, zat, zau, zav, zaw, zax, zay, zaz, zba, zbb, zbc, zbd, zbe, zbf, zbg, zbh, zbi, zbj, zbk, zbl, zbm, zbn, zbo, zbp, zbq, Nat.reduceBEq, Bool.or_self, Bool.or_false, Bool.or_true, Bool.and_true, Bool.and_false, Bool.true_and, Bool.false_and, Option.isNone_none, Option.isNone_some, Option.isSome_some, Option.isSome_none, zbr, zbs, zbt, zbu, zbv, zbw, zbx, zby, zbz, zca, zcb, zcc, zcd, zce, zcf, zcg, zch, zci, zcj, zck, zcl, zcm, zcn, zco, zcp, zcq, zcr, zcs, zct, zcu, zcv, zcw, zcx, zcy, zcz, zda, zdb, zdc, zdd, zde, zdf, zdg, zdh, zdi, zdj, zdk, zdl, zdm, zdn, zdo, zdp, zdq, zdr, zds, Option.getD_some, Option.getD_none, zfg, zfh, zfi, zfj, zfk, zfl, zfm, zfn, Option.map_some, Option.map_none, Option.bind_some, List.map_cons, List.map_nil, List.cons_append, List.nil_append, ↓reduceIte, Nat.reduceEqDiff, Nat.reduceAdd, decide_true, decide_false, Bool.true_eq_false, Bool.false_eq_true, zdt, zdu, zdv, zdw, zdx, zdy, zdz, zea, ia22, ld31, zeb, zec, zed, zee, zef, zeg, zeh, zei, zej, zek, zel, zem, zen, zeo, zep, fa_0, fa_1, zeq, bd_0, bd_2, zer, fd_1, zes, Nat.zero_add, e1, e2, e3, e7, j3, faT_0, faT_4, ldT_0, ldT_4, lenTk, q1, f6, i_eqlV, b4, ia, ld, cc, hx]
              exact finish_i _ _ _ _ _ _ _ (by first | (simp only [zfn, ↓reduceIte, Nat.reduceEqDiff]; done) | (simp only [zfn, ↓reduceIte, Nat.reduceEqDiff]; rfl)) rfl
          · rw [if_neg hx] at hc
            have hgd := rwT_good R kid (deep + 1) v kb (by omega) (by omega)
            have := nod_pos kid
            rcases hbb with ⟨b4, b1⟩ | b4
            · simp only [zaa, zab, zac, zad, zae, zaf, zag, zah, zai, zaj, zak, zal, zam, zan, zao, zap, zaq, zar, zas, zat, zau, zav, zaw, zax, zay, zaz, zba, zbb, zbc, zbd, zbe, zbf, zbg, zbh, zbi, zbj, zbk, zbl, zbm, zbn, zbo, zbp, zbq, Nat.reduceBEq, Bool.or_self, Bool.or_false, Bool.or_true, Bool.and_true, Bool.and_false, Bool.true_and, Bool.false_and, Option.isNone_none, Option.isNone_some, Option.isSome_some, Option.isSome_none, zbr, zbs, zbt, zbu, zbv, zbw, zbx, zby, zbz, zca, zcb, zcc, zcd, zce, zcf, zcg, zch, zci, zcj, zck, zcl, zcm, zcn, zco, zcp, zcq, zcr, zcs, zct, zcu, zcv, zcw, zcx, zcy, zcz, zda, zdb, zdc, zdd, zde, zdf, zdg, zdh, zdi, zdj, zdk, zdl, zdm, zdn, zdo, zdp, zdq, zdr, zds, Option.getD_some, Option.getD_none, zfg, zfh, zfi, zfj, zfk, zfl, zfm, zfn, Option.map_some, Option.map_none, Option.bind_some, List.map_cons, List.map_nil, List.cons_append, List.nil_append, ↓reduceIte, Nat.reduceEqDiff, Nat.reduceAdd, decide_true, decide_false, Bool.true_eq_false, Bool.false_eq_true, zdt, zdu, zdv, zdw, zdx, zdy, zdz, zea, ia22, ld31, zeb, zec, zed, zee, zef, zeg, zeh, zei, zej, zek, zel, zem, zen, zeo, zep, fa_0, fa_1, zeq, bd_0, bd_2, zer, fd_1, zes, Nat.zero_add, e1, e2, e3, e7, j3, faT_0, faT_4, ldT_0, ldT_4, lenTk, q1, f6, i_eqlV, b4, b1, ia, ld, cc, hx, f5]
              exact ih (i + 1, rwT kid (deep + 1) v) _ _ (by simp only; omega) rfl ⟨(by first | (simp only [zfn, ↓reduceIte, Nat.reduceEqDiff, e1]; done) | (simp only [zfn, ↓reduceIte, Nat.reduceEqDiff, e1]; rfl)), (by first | (simp only [zfn, ↓reduceIte, Nat.reduceEqDiff]; done) | (simp only [zfn, ↓reduceIte, Nat.reduceEqDiff]; rfl)), (by first | (simp only [zfn, ↓reduceIte, Nat.reduceEqDiff, e3]; done) | (simp only [zfn, ↓reduceIte, Nat.reduceEqDiff, e3]; rfl)), (by first | (simp only [zfn, ↓reduceIte, Nat.reduceEqDiff]; done) | (simp only [zfn, ↓reduceIte, Nat.reduceEqDiff]; rfl)), by simp only [cellsT]; exact (by first | (simp only [zfn, ↓reduceIte, Nat.reduceEqDiff, j3]; done) | (simp only [zfn, ↓reduceIte, Nat.reduceEqDiff, j3]; rfl)), by simp only; omega, by simp only; omega, by simp only; omega, by simp only; rw [drop_next hd]; exact hc⟩
            · simp only [zaa, zab, zac, zad, zae, zaf, zag, zah, zai, zaj, zak, zal, zam, zan, zao, zap, zaq, zar, zas, zat, zau, zav, zaw, zax, zay, zaz, zba, zbb, zbc, zbd, zbe, zbf, zbg, zbh, zbi, zbj, zbk, zbl, zbm, zbn, zbo, zbp, zbq, Nat.reduceBEq, Bool.or_self, Bool.or_false, Bool.or_true, Bool.and_true, Bool.and_false, Bool.true_and, Bool.false_and, Option.isNone_none, Option.isNone_some, Option.isSome_some, Option.isSome_none, zbr, zbs, zbt, zbu, zbv, zbw, zbx, zby, zbz, zca, zcb, zcc, zcd, zce, zcf, zcg, zch, zci, zcj, zck, zcl, zcm, zcn, zco, zcp, zcq, zcr, zcs, zct, zcu, zcv, zcw, zcx, zcy, zcz, zda, zdb, zdc, zdd, zde, zdf, zdg, zdh, zdi, zdj, zdk, zdl, zdm, zdn, zdo, zdp, zdq, zdr, zds, Option.getD_some, Option.getD_none, zfg, zfh, zfi, zfj, zfk, zfl, zfm, zfn, Option.map_some, Option.map_none, Option.bind_some, List.map_cons, List.map_nil, List.cons_append, List.nil_append, ↓reduceIte, Nat.reduceEqDiff, Nat.reduceAdd, decide_true, decide_false, Bool.true_eq_false, Bool.false_eq_true, zdt, zdu, zdv, zdw, zdx, zdy, zdz, zea, ia22, ld31, zeb, zec, zed, zee, zef, zeg, zeh, zei, zej, zek, zel, zem, zen, zeo, zep, fa_0, fa_1, zeq, bd_0, bd_2, zer, fd_1, zes, Nat.zero_add, e1, e2, e3, e7, j3, faT_0, faT_4, ldT_0, ldT_4, lenTk, q1, f6, i_eqlV, b4, ia, ld, cc, hx, f5]
              exact ih (i + 1, rwT kid (deep + 1) v) _ _ (by simp only; omega) rfl ⟨(by first | (simp only [zfn, ↓reduceIte, Nat.reduceEqDiff, e1]; done) | (simp only [zfn, ↓reduceIte, Nat.reduceEqDiff, e1]; rfl)), (by first | (simp only [zfn, ↓reduceIte, Nat.reduceEqDiff]; done) | (simp only [zfn, ↓reduceIte, Nat.reduceEqDiff]; rfl)), (by first | (simp only [zfn, ↓reduceIte, Nat.reduceEqDiff, e3]; done) | (simp only [zfn, ↓reduceIte, Nat.reduceEqDiff, e3]; rfl)), (by first | (simp only [zfn, ↓reduceIte, Nat.reduceEqDiff]; done) | (simp only [zfn, ↓reduceIte, Nat.reduceEqDiff]; rfl)), by simp only [cellsT]; exact (by first | (simp only [zfn, ↓reduceIte, Nat.reduceEqDiff, j3]; done) | (simp only [zfn, ↓reduceIte, Nat.reduceEqDiff, j3]; rfl)), by simp only; omega, by simp only; omega, by simp only; omega, by simp only; rw [drop_next hd]; exact hc⟩
theorem rCheck_eq (R : Nat) (hR : 100 ≤ R) (hR2 : R ≤ 9223372036854775808) (d : Nat) (t : T) (ht : bigT R t) : evalFn Tryz.prog cfg0 R (d + 2005) 14 [.tree (encT t)] = some (.tree (.bool (decide (rwT t 1 0 ≥ 0))), [[]]) := by
  rw [evalFn_go _ Tryz.func14 (by unfold Tryz.f14; rfl) (by unfold Tryz.f14; decide) (Nat.le_of_ble_eq_true (by unfold Tryz.f14; rfl)) (by kernel_rfl)]
  have cc := fun D => callA_tii (cfg := cfg0) (D := D) (rwalk_eq R hR hR2 2001 (d + 2004) t 1 0 (by decide) (by omega) ht (by decide) (by decide) (by decide) (by decide))
  simp only [zaa, zab, zac, zad, zae, zaf, zag, zah, zai, zaj, zak, zal, zam, zan, zao, zap, zaq, zar, zas, zat, zau, zav, zaw, zax, zay, zaz, zba, zbb, zbc, zbd, zbe, zbf, zbg, zbh, zbi, zbj, zbk, zbl, zbm, zbn, zbo, zbp, zbq, Nat.reduceBEq, Bool.or_self, Bool.or_false, Bool.or_true, Bool.and_true, Bool.and_false, Bool.true_and, Bool.false_and, Option.isNone_none, Option.isNone_some, Option.isSome_some, Option.isSome_none, zbr, zbs, zbt, zbu, zbv, zbw, zbx, zby, zbz, zca, zcb, zcc, zcd, zce, zcf, zcg, zch, zci, zcj, zck, zcl, zcm, zcn, zco, zcp, zcq, zcr, zcs, zct, zcu, zcv, zcw, zcx, zcy, zcz, zda, zdb, zdc, zdd, zde, zdf, zdg, zdh, zdi, zdj, zdk, zdl, zdm, zdn, zdo, zdp, zdq, zdr, zds, Option.getD_some, Option.getD_none, zfg, zfh, zfi, zfj, zfk, zfl, zfm, zfn, Option.map_some, Option.map_none, Option.bind_some, List.map_cons, List.map_nil, List.cons_append, List.nil_append, ↓reduceIte, Nat.reduceEqDiff, Nat.reduceAdd, decide_true, decide_false, Bool.true_eq_false, Bool.false_eq_true, env0, List.getElem?_cons_zero, List.getElem?_cons_succ, zdt, zdu, zdv, zdw, zdx, zdy, zdz, zea, ia22, ld31, zeb, zec, zed, zee, zef, zeg, zeh, zei, zej, zek, zel, zem, zen, zeo, zep, fa_0, fa_1, zeq, bd_0, bd_2, zer, fd_1, zes, Nat.zero_add, encT, ldT_u, cc]
  exact finish_b _ _ _ _ _ _ _ (by first | (simp only [zfn, ↓reduceIte, Nat.reduceEqDiff]; done) | (simp only [zfn, ↓reduceIte, Nat.reduceEqDiff]; rfl)) rfl
end Go.Ab

/- Terms out of a statement's reading. No conditions. -/
namespace Go.Ab
open Go.Proofs Go.RowKit Go.ChangeShapes Go.WideShapes Go.ChangeAt
set_option maxRecDepth 100000

/-- Texts and lists are no longer than that. -/
def R0 : Nat := 9223372036854775808
theorem R0_max : maxLen < R0 := by unfold R0 maxLen; decide
theorem R0_in {n : Nat} (h : n ≤ maxLen) : n < R0 := Nat.lt_of_le_of_lt h R0_max
theorem R0_pos : 0 < R0 := by unfold R0; decide
set_option maxRecDepth 100000 in
theorem und28 : ∃ f0 f1 f2 f3 f4 : Field, Tryz.prog.underlying 29 = some (.struct #[f0, f1, f2, f3, f4]) ∧ (f0.type = 3 ∧ f1.type = 27 ∧ f2.type = 9 ∧ f3.type = 3 ∧ f4.type = 22) ∧ (f0.offset = 0 ∧ f1.offset = 1 ∧ f2.offset = 3 ∧ f3.offset = 4 ∧ f4.offset = 5) := by
  exact ⟨_, _, _, _, _, Tryz.underlying29, ⟨rfl, rfl, rfl, rfl, rfl⟩, ⟨rfl, rfl, rfl, rfl, rfl⟩⟩
theorem cells28 : Tryz.prog.cellsOf 29 = 6 := by kernel_rfl
theorem cellsOI : Tryz.prog.cellsOf 3 = 1 := by kernel_rfl
theorem cellsS : Tryz.prog.cellsOf 9 = 1 := by kernel_rfl
theorem cellsTk : Tryz.prog.cellsOf 22 = 1 := by kernel_rfl
theorem VC_app {S : Nat → Nat → Prop} {w : World} {b : Nat} : ∀ (xs ys : List AV) (o : Nat), VC S w xs b o → VC S w ys b (o + xs.length) → VC S w (xs ++ ys) b o
  | [], ys, o, _, h => by simpa using h
  | x :: xs, ys, o, h, h' => by
    simp only [List.cons_append, VC] at h ⊢
    exact ⟨h.1, h.2.1, VC_app xs ys (o + 1) h.2.2 (by rw [List.length_cons] at h'; rw [show o + 1 + xs.length = o + (xs.length + 1) by omega]; exact h')⟩
theorem VC_of_VL {S : Nat → Nat → Prop} {w : World} {b : Nat} : ∀ (xs : List AV) (vs : List Value) (o : Nat), VL S w xs vs → (∀ j v, vs[j]? = some v → S b (o + j) ∧ w.cell? ⟨b, o + j, none⟩ = some v) → VC S w xs b o
  | [], _, _, _, _ => by simp only [VC]
  | x :: xs, vs, o, h, hc => by
    simp only [VL] at h
    obtain ⟨v, r, rfl, h1, h2, h3⟩ := h
    simp only [VC]
    have h0 := hc 0 v rfl
    refine ⟨h0.1, ⟨v, h0.2, h1, h2⟩, VC_of_VL xs r (o + 1) h3 fun j u hj => ?_⟩
    have := hc (j + 1) u (by simpa using hj)
    rw [show o + (j + 1) = o + 1 + j by omega] at this
    exact this
theorem VC_terms {S : Nat → Nat → Prop} {w : World} {b : Nat} (R : Nat) : ∀ (len o : Nat), (∀ i, i < len → ∃ t, bigT R t ∧ fewT R t ∧ VC S w (cellsT t) b (o + i * 6)) → ∃ ks : List T, ks.length = len ∧ bigK R ks ∧ fewK R ks ∧ VC S w (cellsK ks) b o
  | 0, o, _ => ⟨[], rfl, by simp only [bigK], by simp only [fewK], by simp only [cellsK, VC]⟩
  | len + 1, o, h => by
    obtain ⟨t, h1, h2, h3⟩ := h 0 (by omega)
    obtain ⟨ks, k0, k1, k2, k3⟩ := VC_terms R len (o + 6) fun i hi => by
      obtain ⟨t, a1, a2, a3⟩ := h (i + 1) (by omega)
      exact ⟨t, a1, a2, by rw [show o + 6 + i * 6 = o + (i + 1) * 6 by omega]; exact a3⟩
    refine ⟨t :: ks, by simp [k0], by simp only [bigK]; exact ⟨h1, k1⟩, by simp only [fewK]; exact ⟨h2, k2⟩, ?_⟩
    simp only [cellsK]
    exact VC_app _ _ _ (by simpa using h3) (by rw [cellsT_len]; exact k3)
theorem cell_lt {w : World} {a : Addr} {v : Value} (h : w.cell? a = some v) : a.block < w.heap.size := by
  rw [World.cell?] at h
  cases hb : w.heap[a.block]? with
  | none => simp only [hb] at h; cases h
  | some o => exact (Array.getElem?_eq_some_iff.mp hb).1
theorem add_none (b o i : Nat) : (⟨b, o, none⟩ : Addr).add i = ⟨b, o + i, none⟩ := by
  unfold Addr.add
  split
  · rename_i h; rw [h]; rfl
  · rfl
theorem V0_str {S : Nat → Nat → Prop} {w : World} (s : ByteArray) : V0 S w (.str s.data.toList) (.string s) := by simp [V0]
section
variable {H : Type} {enc : TypeId × Value → H} {w : World} {base : Nat} {held : Bool}
theorem openT_cells : ∀ (fuel : Nat) (cs : List Value) (x : DataW H × List MemPlace), DataW.trod enc Tryz.prog w base (fun _ => true) held fuel 29 cs = some x →
    ∃ t : T, bigT R0 t ∧ fewT R0 t ∧ VL (old w) w (cellsT t) cs ∧ cs.length = 6
  | fuel, cs, x, h => by
    obtain ⟨f0, f1, f2, f3, f4, hu, ⟨t0, t1, t2, t3, t4⟩, ⟨o0, o1, o2, o3, o4⟩⟩ := und28
    obtain ⟨xs, n, hfu, _, hl, hxs, hf⟩ := DataW.trod_struct hu h
    rw [cells28] at hl
    match cs, hl with
    | [c0, c1, c2, c3, c4, c5], _ =>
      match xs, hxs with
      | [y0, y1, y2, y3, y4], _ =>
        have g0 := hf 0 f0 rfl
        have g1 := hf 1 f1 rfl
        have g2 := hf 2 f2 rfl
        have g3 := hf 3 f3 rfl
        have g4 := hf 4 f4 rfl
        rw [t0, o0, cellsOI] at g0
        rw [t1, o1, cells24] at g1
        rw [t2, o2, cellsS] at g2
        rw [t3, o3, cellsOI] at g3
        rw [t4, o4, cellsTk] at g4
        simp only [List.drop_zero, List.drop_succ_cons, List.take_succ_cons, List.take_zero, List.getElem?_cons_zero, List.getElem?_cons_succ] at g0 g1 g2 g3 g4
        obtain ⟨k, e0, _, _⟩ := DataW.trod_int Tryz.underlying3 g0
        obtain ⟨s, e2, _, hs⟩ := DataW.trod_string Tryz.underlying9 g2
        obtain ⟨m, e3, _, _⟩ := DataW.trod_int Tryz.underlying3 g3
        simp only [List.cons.injEq, and_true] at e0 e2 e3
        subst e0; subst e2; subst e3
        obtain ⟨n0, n1, hnu, s0, s1, p0, p1⟩ := und24
        obtain ⟨ys, n', _, _, hl2, hys, hf2⟩ := DataW.trod_struct hnu g1
        match ys, hys with
        | [z0, z1], _ =>
          have q0 := hf2 0 n0 rfl
          have q1 := hf2 1 n1 rfl
          rw [s0, p0, cells4] at q0
          rw [s1, p1, cells22] at q1
          simp only [List.drop_zero, List.drop_succ_cons, List.take_succ_cons, List.take_zero, List.getElem?_cons_zero, List.getElem?_cons_succ] at q0 q1
          obtain ⟨b, eb, _⟩ := DataW.trod_bool Tryz.underlying4 q0
          simp only [List.cons.injEq, and_true] at eb
          subst eb
          have hlim : ∃ l : List Nat, Limbs l ∧ l.length < R0 ∧ V0 (old w) w (encL .l l) c2 ∧ c2.oneCell' = true := by
            rcases open_ints Tryz.underlying25 Tryz.underlying57 (by kernel_rfl) q1 with ⟨hc, _⟩ | ⟨x, l, c, zs, hc, _, hl, hm, hz, _, hcell, hwz⟩
            · simp only [List.cons.injEq, and_true] at hc
              subst hc
              obtain ⟨l, h1, h2⟩ := limbsOf (w := w) (a := none) (len := 0) (cap := 0) (zs := []) (.inl ⟨rfl, rfl, rfl, rfl⟩)
              have hlen : l.length = 0 := by
                simp only [encL, V0] at h2
                obtain ⟨a, cap, he, _⟩ := h2
                injection he with _ h3 _
                exact h3.symm
              exact ⟨l, h1, by rw [hlen]; exact R0_in (by omega), h2, rfl⟩
            · simp only [List.cons.injEq, and_true] at hc
              subst hc
              obtain ⟨l', h1, h2⟩ := limbsOf (w := w) (a := some x) (len := l) (cap := c) (zs := zs) (.inr ⟨x, rfl, hl, hm, by simpa using hz, hcell, hwz⟩)
              have hlen : l'.length = l := by
                simp only [encL, V0] at h2
                obtain ⟨a, cap, he, _⟩ := h2
                injection he with _ h3 _
                exact h3.symm
              exact ⟨l', h1, by rw [hlen]; exact R0_in (by omega), h2, rfl⟩
          obtain ⟨l, hL, hLl, hV2, hO2⟩ := hlim
          have hkids : ∃ ks : List T, ks.length < R0 ∧ bigK R0 ks ∧ fewK R0 ks ∧ V0 (old w) w (.sl (cellsK ks) ks.length (gr .l)) c5 ∧ c5.oneCell' = true := by
            rcases DataW.trod_slice Tryz.underlying22 g4 with ⟨hc, _⟩ | ⟨a, len, cap, elems, rest, n2, hfn, hc, _, hb, hle, hm, hlen, hel, hsp, _⟩
            · simp only [List.cons.injEq, and_true] at hc
              subst hc
              refine ⟨[], R0_pos, by simp only [bigK], by simp only [fewK], ?_, rfl⟩
              simp only [V0, cellsK]
              exact ⟨none, 0, rfl, by simp, by simp [gr], by simp [Grip.isTok, gr], .inl (by simp)⟩
            · simp only [List.cons.injEq, and_true] at hc
              subst hc
              by_cases hcap : cap = 0
              · subst hcap
                have : len = 0 := by omega
                subst this
                refine ⟨[], R0_pos, by simp only [bigK], by simp only [fewK], ?_, rfl⟩
                simp only [V0, cellsK]
                exact ⟨some a, 0, rfl, by simp, by simp [gr], by simp [Grip.isTok, gr], .inl (by simp)⟩
              · have hsp := hsp rfl
                have key : ∀ i, i < cap → ∃ cs' y, w.cells? base (a.add (i * 6)) 6 = some cs' ∧ DataW.trod enc Tryz.prog w base (fun _ => true) held n2 29 cs' = some y := by
                  intro i hi
                  by_cases hil : i < len
                  · have h1 := hel i hil
                    rw [cells28] at h1
                    have h2 : elems[i]? = some (elems[i]'(by omega)) := List.getElem?_eq_getElem (by omega)
                    rw [h2] at h1
                    obtain ⟨cs', k1, k2⟩ := Option.bind_eq_some_iff.mp h1
                    exact ⟨cs', _, k1, k2⟩
                  · have h1 := hsp.2 (i - len) (by omega)
                    rw [cells28, show len + (i - len) = i by omega] at h1
                    have h2 : rest[i - len]? = some (rest[i - len]'(by omega)) := List.getElem?_eq_getElem (by omega)
                    rw [h2] at h1
                    obtain ⟨cs', k1, k2⟩ := Option.bind_eq_some_iff.mp h1
                    exact ⟨cs', _, k1, k2⟩
                obtain ⟨bl, of, spot⟩ := a
                have hs : spot = none := by
                  obtain ⟨cs', y, k1, k2⟩ := key 0 (by omega)
                  obtain ⟨_, h2, h3⟩ := World.cells?_some k1
                  have h4 := h3 0 (by omega)
                  have h5 : cs'[0]? = some (cs'[0]'(by omega)) := List.getElem?_eq_getElem (by omega)
                  rw [h5] at h4
                  simpa [Addr.add] using World.cell?_spot h4
                subst hs
                obtain ⟨ks, k0, k1, k2, k3⟩ := VC_terms (S := old w) (w := w) (b := bl) R0 len of fun i hi => by
                  obtain ⟨cs', y, a1, a2⟩ := key i (by omega)
                  obtain ⟨t, b1, b2, b3, b4⟩ := openT_cells n2 cs' y a2
                  refine ⟨t, b1, b2, VC_of_VL _ _ _ b3 fun j v hj => ?_⟩
                  obtain ⟨_, c1, c2⟩ := World.cells?_some a1
                  have hj6 : j < 6 := by rw [← c1]; exact (List.getElem?_eq_some_iff.mp hj).1
                  have c3 := c2 j hj6
                  rw [hj, add_none, add_none] at c3
                  exact ⟨cell_lt c3, c3⟩
                refine ⟨ks, by rw [k0]; exact R0_in (by omega), k1, k2, ?_, rfl⟩
                simp only [V0]
                exact ⟨_, cap, by rw [k0], by rw [k0]; exact hle, by simp [gr], by simp [Grip.isTok, gr], .inr ⟨bl, of, rfl, k3⟩⟩
          obtain ⟨ks, hk1, hk2, hk3, hk4, hk5⟩ := hkids
          refine ⟨.mk k b .l l s.data.toList m .l ks, ?_, ?_, ?_, rfl⟩
          · simp only [bigT]
            exact ⟨hL, by have : s.data.toList.length = s.size := Array.length_toList
                          rw [this]; exact R0_in (by omega), hk2⟩
          · simp only [fewT]
            exact ⟨hLl, hk1, hk3⟩
          · simp only [cellsT, VL]
            exact ⟨_, _, rfl, rfl, by simp only [V0], _, _, rfl, rfl, by simp only [V0], _, _, rfl, hO2, hV2, _, _, rfl, rfl, V0_str s, _, _, rfl, rfl, by simp only [V0], _, _, rfl, hk5, hk4, rfl⟩
termination_by fuel => fuel
decreasing_by all_goals omega
/-- A term in memory, as a statement's reading gives it. -/
def IsTerm (w : World) (v : Value) : Prop := ∃ t : T, bigT R0 t ∧ fewT R0 t ∧ V0 (old w) w (encT t) v
theorem openTerm {r : Reach} {b0 : Nat} {v : Value} {d : DataW H} {ps : List MemPlace} (hval : Value.okWide Tryz.prog w r b0 29 v) (h : DataW.Trod enc Tryz.prog w base (fun _ => true) held 29 v d ps) : IsTerm w v := by
  obtain ⟨f0, f1, f2, f3, f4, hu, _, _⟩ := und28
  obtain ⟨cs, rfl, hsz⟩ := okWide_struct hu hval
  obtain ⟨fuel, hf⟩ := h
  obtain ⟨t, h1, h2, h3, _⟩ := openT_cells fuel _ _ hf
  refine ⟨t, h1, h2, ?_⟩
  simp only [encT, V0]
  exact ⟨cs.toList, by simp, by simpa [Value.cells] using h3⟩
end
end Go.Ab

/- Rows of terms in memory, as a statement's reading gives them. No conditions. -/
namespace Go.Ab
open Go.Proofs Go.RowKit
set_option maxRecDepth 100000
def IsTerms (w : World) (a : Option Addr) (len cap : Nat) : Prop := ∃ ks : List T, ks.length = len ∧ bigK R0 ks ∧ fewK R0 ks ∧ V0 (old w) w (.sl (cellsK ks) len .loose) (.slice a len cap)
section
variable {H : Type} {enc : TypeId × Value → H} {w : World} {base : Nat} {held : Bool}
theorem openTerms {a : Option Addr} {len cap : Nat} {d : DataW H} {ps : List MemPlace} (h : DataW.Trod enc Tryz.prog w base (fun _ => true) held 22 (.slice a len cap) d ps) : IsTerms w a len cap := by
  obtain ⟨fuel, hf⟩ := h
  have hk : ∀ c5 : Value, DataW.trod enc Tryz.prog w base (fun _ => true) held fuel 22 [c5] = some (d, ps) → ∃ ks : List T, ks.length < R0 ∧ bigK R0 ks ∧ fewK R0 ks ∧ V0 (old w) w (.sl (cellsK ks) ks.length (gr .l)) c5 ∧ c5.oneCell' = true := by
    intro c5 hf
    rcases DataW.trod_slice Tryz.underlying22 hf with ⟨hc, _⟩ | ⟨a, len, cap, elems, rest, n2, hfn, hc, _, hb, hle, hm, hlen, hel, hsp, _⟩
    · simp only [List.cons.injEq, and_true] at hc
      subst hc
      refine ⟨[], R0_pos, by simp only [bigK], by simp only [fewK], ?_, rfl⟩
      simp only [V0, cellsK]
      exact ⟨none, 0, rfl, by simp, by simp [gr], by simp [Grip.isTok, gr], .inl (by simp)⟩
    · simp only [List.cons.injEq, and_true] at hc
      subst hc
      by_cases hcap : cap = 0
      · subst hcap
        have : len = 0 := by omega
        subst this
        refine ⟨[], R0_pos, by simp only [bigK], by simp only [fewK], ?_, rfl⟩
        simp only [V0, cellsK]
        exact ⟨some a, 0, rfl, by simp, by simp [gr], by simp [Grip.isTok, gr], .inl (by simp)⟩
      · have hsp := hsp rfl
        have key : ∀ i, i < cap → ∃ cs' y, w.cells? base (a.add (i * 6)) 6 = some cs' ∧ DataW.trod enc Tryz.prog w base (fun _ => true) held n2 29 cs' = some y := by
          intro i hi
          by_cases hil : i < len
          · have h1 := hel i hil
            rw [cells28] at h1
            have h2 : elems[i]? = some (elems[i]'(by omega)) := List.getElem?_eq_getElem (by omega)
            rw [h2] at h1
            obtain ⟨cs', k1, k2⟩ := Option.bind_eq_some_iff.mp h1
            exact ⟨cs', _, k1, k2⟩
          · have h1 := hsp.2 (i - len) (by omega)
            rw [cells28, show len + (i - len) = i by omega] at h1
            have h2 : rest[i - len]? = some (rest[i - len]'(by omega)) := List.getElem?_eq_getElem (by omega)
            rw [h2] at h1
            obtain ⟨cs', k1, k2⟩ := Option.bind_eq_some_iff.mp h1
            exact ⟨cs', _, k1, k2⟩
        obtain ⟨bl, of, spot⟩ := a
        have hs : spot = none := by
          obtain ⟨cs', y, k1, k2⟩ := key 0 (by omega)
          obtain ⟨_, h2, h3⟩ := World.cells?_some k1
          have h4 := h3 0 (by omega)
          have h5 : cs'[0]? = some (cs'[0]'(by omega)) := List.getElem?_eq_getElem (by omega)
          rw [h5] at h4
          simpa [Addr.add] using World.cell?_spot h4
        subst hs
        obtain ⟨ks, k0, k1, k2, k3⟩ := VC_terms (S := old w) (w := w) (b := bl) R0 len of fun i hi => by
          obtain ⟨cs', y, a1, a2⟩ := key i (by omega)
          obtain ⟨t, b1, b2, b3, b4⟩ := openT_cells n2 cs' y a2
          refine ⟨t, b1, b2, VC_of_VL _ _ _ b3 fun j v hj => ?_⟩
          obtain ⟨_, c1, c2⟩ := World.cells?_some a1
          have hj6 : j < 6 := by rw [← c1]; exact (List.getElem?_eq_some_iff.mp hj).1
          have c3 := c2 j hj6
          rw [hj, add_none, add_none] at c3
          exact ⟨cell_lt c3, c3⟩
        refine ⟨ks, by rw [k0]; exact R0_in (by omega), k1, k2, ?_, rfl⟩
        simp only [V0]
        exact ⟨_, cap, by rw [k0], by rw [k0]; exact hle, by simp [gr], by simp [Grip.isTok, gr], .inr ⟨bl, of, rfl, k3⟩⟩

  obtain ⟨ks, h1, h2, h3, h4, _⟩ := hk _ hf
  have hl : ks.length = len := by
    simp only [V0] at h4
    obtain ⟨_, _, e, _⟩ := h4
    injection e with _ e2 _
    exact e2.symm
  exact ⟨ks, hl, h2, h3, by rw [hl] at h4; exact h4⟩
end
end Go.Ab

/- Lists of terms: term.List; rows of terms that grow. Conditions: lengths in range. -/
namespace Go.Ab
open Go.Proofs
set_option maxRecDepth 100000
set_option linter.unusedSimpArgs false

theorem callQ_loose {call : FuncId → List Arg → Option Out} {f : FuncId} {vs vs' : List AV} {v : AV} {os : List (List AV)} (h0 : vs.all isTree = false) (ht : vs.all isLent = true) (e : vs.map loosen = vs') (hc : call f (vs'.map Arg.tree) = some (.tree v, os)) : callQ call f vs = some v := by
  have e2 : (vs.map fun v => Arg.tree (loosen v)) = vs'.map .tree := by rw [← e]; simp
  simp only [callQ, h0, ht, Bool.false_eq_true, if_false, if_true, e2, hc, Option.bind_some]
/-- A cell of a list. -/
def consT (h t : T) : T := .mk 4 false .n [] [] 0 .t [h, t]
def listT : List T → T → T
  | [], t => t
  | h :: r, t => consT h (listT r t)
theorem cells_cons (h t : T) : cellsT (consT h t) = consV (cellsT h) (cellsT t) := by
  simp only [consT, cellsT, cellsK, consV, List.append_nil, encL, encC, List.map_nil, List.length_nil, gr, List.length_cons, Nat.reduceAdd]
theorem chunk_K (ks : List T) (i : Nat) (t : T) (r : List T) (h : ks.drop i = t :: r) : chunk (cellsK ks) i = cellsT t := by
  rw [chunk, cellsK_drop, h]
  simp only [cellsK]
  rw [List.take_append_of_le_length (by rw [cellsT_len]; exact Nat.le_refl _), List.take_of_length_le (by rw [cellsT_len]; exact Nat.le_refl _)]
theorem listT_snoc (h : T) : ∀ (r : List T) (t : T), listT (r ++ [h]) t = listT r (consT h t)
  | [], t => rfl
  | a :: r, t => by simp only [List.cons_append, listT, listT_snoc h r t]
theorem lstN_K (ks : List T) : ∀ (n : Nat) (t : T), n ≤ ks.length → lstN (cellsK ks) n (cellsT t) = cellsT (listT (ks.take n) t)
  | 0, t, _ => rfl
  | n + 1, t, h => by
    have hd : ks.drop n = ks[n] :: ks.drop (n + 1) := List.drop_eq_getElem_cons h
    rw [lstN, chunk_K ks n _ _ hd, ← cells_cons, lstN_K ks n _ (by omega), List.take_succ_eq_append_getElem h, listT_snoc]
theorem tList_eq (n d : Nat) (ks : List T) (g : Grip) (t : T) (h : ks.length ≤ 9223372036854775807) : evalFn Tryz.prog cfg0 n (d+1) 91 [.tree (.sl (cellsK ks) ks.length g), .tree (encT t)] = some (.tree (encT (listT ks t)), [[], []]) := by
  have hp : prim0 91 [.tree (.sl (cellsK ks) ks.length g), .tree (encT t)] = some (.tree (encT (listT ks t)), [[], []]) := by
    unfold prim0
    rw [if_neg (by decide), if_pos (by decide)]
    have e := lstN_K ks ks.length t (Nat.le_refl _)
    rw [List.take_length] at e
    simp only [listP, encT]
    rw [if_pos ⟨cellsK_len ks, cellsT_len t, h⟩, e]
  have hc : cfg0.prim = prim0 := rfl
  rw [evalFn]
  simp only [hc, hp]
/-! ### Rows that grow -/
theorem by28 : decide (byOf Tryz.prog 29 ≤ 200) = true := by kernel_rfl
theorem zl28 : (zeroOf Tryz.prog 29).map List.length = some 6 := by kernel_rfl
/-- A row that is being made at one place. -/
def Ap (s : St) (d : Nat) (x : AV) (us : List T) : Prop := (us = [] ∧ x = .sl [] 0 .nil) ∨ (us ≠ [] ∧ ∃ t, x = .sl (cellsK us) us.length (.tok d t) ∧ s d = ⟨t, .tok 6⟩)
theorem Ap.push {s : St} {d : Nat} {x : AV} {us : List T} (h : Ap s d x us) (hl : us.length ≤ 1000000) (v : T) :
    ∃ x' s', appendA Tryz.prog #[22, 22] d s x (.sl (cellsT v) 1 .tight) = some (x', s') ∧ Ap s' d x' (us ++ [v]) ∧ ∀ q, q ≠ d → s' q = s q := by
  have hb := of_decide_eq_true by28
  have hk : cellsK (us ++ [v]) = cellsK us ++ cellsT v := by rw [cellsK_append]; simp only [cellsK, List.append_nil]
  have hm : ∀ s, moreA Tryz.prog 29 6 (some 22) s (.sl (cellsT v) 1 .tight) = some (cellsT v, 1) := fun s => by
    simp only [moreA, Option.map_some, tkTk, cellsT_len, Nat.one_mul, ↓reduceIte]
  have hc : (us.length + 1) * byOf Tryz.prog 29 ≤ 140737488355328 ∧ us.length + 1 ≤ 9223372036854775807 := by
    have : (us.length + 1) * byOf Tryz.prog 29 ≤ 1000001 * 200 := Nat.mul_le_mul (by omega) hb
    omega
  rcases h with ⟨rfl, rfl⟩ | ⟨_, t, rfl, hs⟩
  · refine ⟨_, upd s d ⟨(s d).t + 1, .tok 6⟩, ?_, .inr ⟨by simp, (s d).t + 1, rfl, upd_same _ _ _⟩, fun q hq => upd_ne _ _ hq⟩
    simp only [appendA, List.getElem?_toArray, List.getElem?_cons_zero, List.getElem?_cons_succ, Option.map_some, tkTk, eszT, Option.bind_some, hm, baseA, List.length_nil, Nat.zero_mul, ↓reduceIte, zl28, and_true]
    rw [if_pos (by simpa using hc)]
    simp [cellsK]
  · refine ⟨_, upd (upd s d ⟨t, .dead⟩) d ⟨t + 1, .tok 6⟩, ?_, .inr ⟨by simp, t + 1, rfl, upd_same _ _ _⟩, fun q hq => (upd_ne _ _ hq).trans (upd_ne _ _ hq)⟩
    simp only [appendA, List.getElem?_toArray, List.getElem?_cons_zero, List.getElem?_cons_succ, Option.map_some, tkTk, eszT, Option.bind_some, hm, baseA, hs, cellsK_len, and_self, ↓reduceIte, zl28, and_true]
    rw [if_pos hc]
    simp only [upd_same, List.length_append, List.length_cons, List.length_nil, Nat.zero_add, hk]
/-- The row behind it all, as a term's. -/
def kgOf (us : List T) : Gk := if us = [] then .n else .l
theorem Ap.settled {s : St} {d : Nat} {x : AV} {us : List T} (h : Ap s d x us) : Go.Ab.settled x = some (.sl (cellsK us) us.length (gr (kgOf us))) := by
  rcases h with ⟨rfl, rfl⟩ | ⟨hu, t, rfl, _⟩
  · rfl
  · simp only [Go.Ab.settled, kgOf, if_neg hu, gr]
end Go.Ab

/- Terms in their order: mathematics. Conditions: terms that may be. -/
namespace Go.Ab
open Go.Proofs
set_option maxRecDepth 100000
set_option linter.unusedSimpArgs false

def Tr (x y z : Int) : Prop := (x ≤ 0 → y ≤ 0 → z ≤ 0) ∧ (x < 0 → y ≤ 0 → z < 0) ∧ (x ≤ 0 → y < 0 → z < 0) ∧ (x = 0 → y = 0 → z = 0)
theorem or2_neg {p q p' q' : Int} (h : p' = -p) (h' : p = 0 → q' = -q) : or2 p' q' = - or2 p q := by
  unfold or2
  by_cases e : p = 0
  · rw [if_pos e, if_pos (by omega)]; exact h' e
  · rw [if_neg e, if_neg (by omega)]; exact h
theorem or2_zero {p q : Int} : or2 p q = 0 ↔ p = 0 ∧ q = 0 := by
  unfold or2
  by_cases e : p = 0
  · rw [if_pos e]; exact ⟨fun h => ⟨e, h⟩, fun h => h.2⟩
  · rw [if_neg e]; exact ⟨fun h => absurd h e, fun h => absurd h.1 e⟩
theorem Tr.or2 {p1 p2 p3 q1 q2 q3 : Int} (h : Tr p1 p2 p3) (h' : p1 = 0 → p2 = 0 → Tr q1 q2 q3) : Tr (or2 p1 q1) (or2 p2 q2) (or2 p3 q3) := by
  unfold Go.Ab.or2
  by_cases e1 : p1 = 0
  · by_cases e2 : p2 = 0
    · have e3 := h.2.2.2 e1 e2
      rw [if_pos e1, if_pos e2, if_pos e3]
      exact h' e1 e2
    · rw [if_pos e1, if_neg e2]
      by_cases e3 : p3 = 0
      · rw [if_pos e3]
        unfold Tr at *
        omega
      · rw [if_neg e3]
        unfold Tr at *
        omega
  · rw [if_neg e1]
    by_cases e2 : p2 = 0
    · rw [if_pos e2]
      by_cases e3 : p3 = 0
      · rw [if_pos e3]
        unfold Tr at *
        omega
      · rw [if_neg e3]
        unfold Tr at *
        omega
    · rw [if_neg e2]
      by_cases e3 : p3 = 0
      · rw [if_pos e3]
        unfold Tr at *
        omega
      · rw [if_neg e3]
        unfold Tr at *
        omega
theorem three_neg (a b : Int) : three b a = - three a b := by unfold three; split <;> split <;> omega
theorem three_zero (a b : Int) : three a b = 0 ↔ a = b := by unfold three; split <;> (try split) <;> omega
theorem bl_cons (a b : UInt8) (x y : List UInt8) : Op.bytesLess (a :: x) (b :: y) = (decide (a < b) || a == b && Op.bytesLess x y) := by rw [Op.bytesLess]
theorem strC_cons (a b : UInt8) (x y : List UInt8) : strC (a :: x) (b :: y) = or2 (three a.toNat b.toNat) (strC x y) := by
  unfold strC
  rw [bl_cons]
  by_cases h : a < b
  · have h' : (a.toNat : Int) < b.toNat := by have := UInt8.lt_iff_toNat_lt.mp h; omega
    have e : three a.toNat b.toNat = -1 := if_pos h'
    rw [e, if_pos (by simp [h])]; rfl
  · by_cases g : b < a
    · have g' : (b.toNat : Int) < a.toNat := by have := UInt8.lt_iff_toNat_lt.mp g; omega
      have e : three a.toNat b.toNat = 1 := by unfold three; rw [if_neg (by omega), if_pos g']
      have hab : a ≠ b := by intro e; subst e; exact absurd g h
      have hab' : (a == b) = false := beq_eq_false_iff_ne.mpr hab
      rw [e, if_neg (by simp [h, hab']), if_neg (by intro hh; injection hh with h1 h2; exact hab h1)]; rfl
    · have hab : a = b := by
        have h1 : ¬ a.toNat < b.toNat := fun hh => h (UInt8.lt_iff_toNat_lt.mpr hh)
        have h2 : ¬ b.toNat < a.toNat := fun hh => g (UInt8.lt_iff_toNat_lt.mpr hh)
        exact UInt8.toNat_inj.mp (by omega)
      subst hab
      have e : three a.toNat a.toNat = 0 := (three_zero _ _).mpr rfl
      rw [e]
      have hb : (decide (a < a) || (a == a) && Op.bytesLess x y) = Op.bytesLess x y := by simp [h]
      rw [or2_0 rfl]
      by_cases hx : Op.bytesLess x y = true
      · rw [if_pos (by simp [hx]), if_pos hx]
      · rw [if_neg (by simp [h]; simpa using hx), if_neg hx]
        by_cases hxy : x = y
        · rw [if_pos (by rw [hxy]), if_pos hxy]
        · rw [if_neg (by intro hh; injection hh with h1 h2; exact hxy h2), if_neg hxy]
theorem strC_nc (a : UInt8) (x : List UInt8) : strC [] (a :: x) = -1 := rfl
theorem strC_cn (a : UInt8) (x : List UInt8) : strC (a :: x) [] = 1 := by
  unfold strC Op.bytesLess
  rw [if_neg (by simp), if_neg (by simp)]
theorem strC_neg : ∀ x y : List UInt8, strC y x = - strC x y
  | [], [] => rfl
  | [], a :: x => by rw [strC_nc, strC_cn]; rfl
  | a :: x, [] => by rw [strC_nc, strC_cn]
  | a :: x, b :: y => by
    rw [strC_cons, strC_cons]
    exact or2_neg (three_neg _ _) (fun _ => strC_neg x y)
theorem strC_zero (x y : List UInt8) : strC x y = 0 ↔ x = y := by
  constructor
  · unfold strC
    split
    · intro h; omega
    · split
      · intro _; assumption
      · intro h; omega
  · intro h; subst h
    have := strC_neg x x
    omega
/-- What is left to be compared, of one kind. -/
def restC (k : Int) (a b : T) : Int :=
  if k = 1 then cmpI (numT a) (numT b) else if k = 2 ∨ k = 6 then strC (strT a) (strT b) else if k = 5 then or2 (three (kidsT a).length (kidsT b).length) (cmpL (kidsT a) (kidsT b)) else 0
theorem cmp_4 (n1 : Bool) (lg : Gk) (l : List Nat) (s : List UInt8) (i1 : Int) (kg : Gk) (x y : T) (n2 : Bool) (lg' : Gk) (l' : List Nat) (s' : List UInt8) (i2 : Int) (kg' : Gk) (x' y' : T) :
    cmpT (.mk 4 n1 lg l s i1 kg [x, y]) (.mk 4 n2 lg' l' s' i2 kg' [x', y']) = or2 (cmpT x x') (cmpT y y') := by
  simp only [cmpT, kindT, kidsT, and_self, ↓reduceIte, cmpC, cmpD, List.headD_cons, List.tail_cons]
theorem cmp_k (a b : T) (h : ¬ (kindT a = 4 ∧ kindT b = 4)) : cmpT a b = or2 (three (rankI (kindT a)) (rankI (kindT b))) (restC (kindT a) a b) := by
  obtain ⟨k, n1, lg, l, s, i1, kg, ks⟩ := a
  obtain ⟨k', n2, lg', l', s', i2, kg', ks'⟩ := b
  simp only [kindT] at h
  first
    | (simp only [cmpT, kindT, h, ↓reduceIte, restC, numT, strT, kidsT]; done)
    | (simp only [cmpT, kindT, h, ↓reduceIte, restC, numT, strT, kidsT]; rfl)
theorem good_4 {t : T} (h : goodT t) (hk : kindT t = 4) : ∃ x y, (∃ n1 lg l s i1 kg, t = .mk 4 n1 lg l s i1 kg [x, y]) ∧ goodT x ∧ goodT y ∧ nodT t = nodT x + nodT y + 1 := by
  obtain ⟨k, n1, lg, l, s, i1, kg, ks⟩ := t
  simp only [kindT] at hk
  subst hk
  obtain ⟨x, y, rfl⟩ := own_kids (good_own h).2.1 rfl
  have := (good_own h).2.2
  simp only [goodK, and_true] at this
  exact ⟨x, y, ⟨_, _, _, _, _, _, rfl⟩, this.1, this.2, by simp only [nodT, nodK]; omega⟩
theorem cmpL_neg : ∀ us vs : List T, (∀ x ∈ us, ∀ y ∈ vs, cmpT y x = - cmpT x y) → cmpL vs us = - cmpL us vs
  | [], [], _ => by simp only [cmpL]; rfl
  | [], _ :: _, _ => by simp only [cmpL]; rfl
  | _ :: _, [], _ => by simp only [cmpL]
  | x :: r, y :: q, h => by
    simp only [cmpL]
    exact or2_neg (h x (by simp) y (by simp)) fun _ => cmpL_neg r q fun x hx y hy => h x (by simp [hx]) y (by simp [hy])
theorem cmpL_zero : ∀ us vs : List T, us.length = vs.length → (∀ x ∈ us, ∀ y ∈ vs, (cmpT x y = 0 ↔ sameT x y = true)) → (cmpL us vs = 0 ↔ sameK us vs = true)
  | [], [], _, _ => by simp only [cmpL, sameK]
  | x :: r, y :: q, hl, h => by
    simp only [cmpL, sameK, Bool.and_eq_true]
    rw [or2_zero, h x (by simp) y (by simp), cmpL_zero r q (by simpa using hl) fun x hx y hy => h x (by simp [hx]) y (by simp [hy])]
theorem goodK_mem : ∀ (ks : List T), goodK ks → ∀ t ∈ ks, goodT t ∧ nodT t ≤ nodK ks
  | [], _, t, ht => by cases ht
  | a :: q, h, t, ht => by
    simp only [goodK] at h
    simp only [nodK]
    rcases List.mem_cons.mp ht with rfl | ht
    · exact ⟨h.1, by omega⟩
    · have := goodK_mem q h.2 t ht
      exact ⟨this.1, by omega⟩
theorem good_kidsT {t : T} (h : goodT t) : goodK (kidsT t) := by
  obtain ⟨k, n1, lg, l, s, i1, kg, ks⟩ := t
  exact (good_own h).2.2
theorem good_kindT {t : T} (h : goodT t) : 1 ≤ kindT t ∧ kindT t ≤ 6 := by
  obtain ⟨k, n1, lg, l, s, i1, kg, ks⟩ := t
  exact good_kind h
theorem nod_kids (t : T) : nodT t = nodK (kidsT t) + 1 := by
  obtain ⟨k, n1, lg, l, s, i1, kg, ks⟩ := t
  rfl
theorem cmp_neg : ∀ (N : Nat) (a b : T), nodT a ≤ N → goodT a → goodT b → cmpT b a = - cmpT a b
  | 0, a, b, hN, _, _ => by have := nod_pos a; omega
  | N + 1, a, b, hN, ha, hb => by
    by_cases h4 : kindT a = 4 ∧ kindT b = 4
    · obtain ⟨x, y, ⟨n1, lg, l, s, i1, kg, rfl⟩, gx, gy, hn⟩ := good_4 ha h4.1
      obtain ⟨x', y', ⟨n2, lg', l', s', i2, kg', rfl⟩, gx', gy', _⟩ := good_4 hb h4.2
      rw [cmp_4, cmp_4]
      have := nod_pos x
      have := nod_pos y
      exact or2_neg (cmp_neg N x x' (by omega) gx gx') fun _ => cmp_neg N y y' (by omega) gy gy'
    · rw [cmp_k a b h4, cmp_k b a (fun h => h4 ⟨h.2, h.1⟩)]
      refine or2_neg (three_neg _ _) fun e => ?_
      have hk := rank_inj (good_kindT ha) (good_kindT hb) e
      rw [← hk]
      unfold restC
      split
      · exact three_neg _ _
      split
      · exact strC_neg _ _
      split
      · refine or2_neg (three_neg _ _) fun _ => cmpL_neg _ _ fun x hx y hy => ?_
        have h1 := goodK_mem _ (good_kidsT ha) x hx
        have h2 := goodK_mem _ (good_kidsT hb) y hy
        have := nod_kids a
        exact cmp_neg N x y (by omega) h1.1 h2.1
      · rfl
theorem numZ_inj {b b' : Bool} {l l' : List Nat} (hl : Limbs l) (hl' : Limbs l') (h : chkN b l = true) (h' : chkN b' l' = true) (e : numZ b l = numZ b' l') : b = b' ∧ l = l' := by
  have h1 := numZ_is hl h
  have h2 := numZ_is hl' h'
  rw [← e] at h2
  exact ⟨h1.2.1.symm.trans h2.2.1, h1.2.2.symm.trans h2.2.2⟩
theorem cmp_same : ∀ (N : Nat) (a b : T), nodT a ≤ N → goodT a → goodT b → (cmpT a b = 0 ↔ sameT a b = true)
  | 0, a, b, hN, _, _ => by have := nod_pos a; omega
  | N + 1, a, b, hN, ha, hb => by
    by_cases h4 : kindT a = 4 ∧ kindT b = 4
    · obtain ⟨x, y, ⟨n1, lg, l, s, i1, kg, rfl⟩, gx, gy, hn⟩ := good_4 ha h4.1
      obtain ⟨x', y', ⟨n2, lg', l', s', i2, kg', rfl⟩, gx', gy', _⟩ := good_4 hb h4.2
      rw [cmp_4, or2_zero]
      have := nod_pos x
      have := nod_pos y
      rw [cmp_same N x x' (by omega) gx gx', cmp_same N y y' (by omega) gy gy']
      simp [sameT, kindT, kidsT, sameK]
    · rw [cmp_k a b h4, or2_zero, three_zero]
      by_cases hk : kindT a = kindT b
      · have hk4 : kindT a ≠ 4 := fun e => h4 ⟨e, hk ▸ e⟩
        rw [hk, eq_self_iff_true, true_and]
        obtain ⟨k, n1, lg, l, s, i1, kg, ks⟩ := a
        obtain ⟨k', n2, lg', l', s', i2, kg', ks'⟩ := b
        simp only [kindT] at hk hk4
        subst hk
        have oa := good_own ha
        have ob := good_own hb
        have kk := good_kind ha
        by_cases h1 : k = 1
        · subst h1
          have ca : chkN n1 l = true := by have := oa.2.1; simp only [ownT, ↓reduceIte, Bool.and_eq_true] at this; exact this.2.1.1.1
          have cb : chkN n2 l' = true := by have := ob.2.1; simp only [ownT, ↓reduceIte, Bool.and_eq_true] at this; exact this.2.1.1.1
          have e1 : restC 1 (.mk 1 n1 lg l s i1 kg ks) (.mk 1 n2 lg' l' s' i2 kg' ks') = three (numZ n1 l) (numZ n2 l') := rfl
          have e2 : sameT (.mk 1 n1 lg l s i1 kg ks) (.mk 1 n2 lg' l' s' i2 kg' ks') = (decide (n1 = n2) && decide (l = l')) := by first | (simp [sameT, kindT, sgnT, limT]; done) | (simp [sameT, kindT, sgnT, limT]; rfl)
          simp only [kindT]
          rw [e1, e2, three_zero, Bool.and_eq_true, decide_eq_true_eq, decide_eq_true_eq]
          exact ⟨numZ_inj oa.1 ob.1 ca cb, fun h => by rw [h.1, h.2]⟩
        by_cases h26 : k = 2 ∨ k = 6
        · have e1 : restC k (.mk k n1 lg l s i1 kg ks) (.mk k n2 lg' l' s' i2 kg' ks') = strC s s' := by unfold restC; rw [if_neg h1, if_pos h26]; rfl
          have e2 : sameT (.mk k n1 lg l s i1 kg ks) (.mk k n2 lg' l' s' i2 kg' ks') = decide (s = s') := by first | (simp [sameT, kindT, strT, h1, h26]; done) | (simp [sameT, kindT, strT, h1, h26]; rfl)
          simp only [kindT]
          rw [e1, e2, strC_zero, decide_eq_true_eq]
        by_cases h5 : k = 5
        · subst h5
          have e1 : restC 5 (.mk 5 n1 lg l s i1 kg ks) (.mk 5 n2 lg' l' s' i2 kg' ks') = or2 (three ks.length ks'.length) (cmpL ks ks') := rfl
          have e2 : sameT (.mk 5 n1 lg l s i1 kg ks) (.mk 5 n2 lg' l' s' i2 kg' ks') = sameK ks ks' := by simp [sameT, kindT, kidsT]
          simp only [kindT]
          rw [e1, e2, or2_zero, three_zero]
          constructor
          · intro ⟨hl, hc⟩
            exact (cmpL_zero _ _ (by omega) fun x hx y hy => cmp_same N x y (by have := (goodK_mem ks oa.2.2 x hx).2; simp only [nodT] at hN; omega) (goodK_mem ks oa.2.2 x hx).1 (goodK_mem ks' ob.2.2 y hy).1).mp hc
          · intro hs
            have hl : ks.length = ks'.length := by
              by_cases e : ks.length = ks'.length
              · exact e
              · rw [sameK_len _ _ e] at hs; cases hs
            exact ⟨by omega, (cmpL_zero _ _ (by omega) fun x hx y hy => cmp_same N x y (by have := (goodK_mem ks oa.2.2 x hx).2; simp only [nodT] at hN; omega) (goodK_mem ks oa.2.2 x hx).1 (goodK_mem ks' ob.2.2 y hy).1).mpr hs⟩
        have h3 : k = 3 := by omega
        subst h3
        simp [restC, kindT, sameT]
      · constructor
        · intro ⟨h, _⟩
          exact absurd (rank_inj (good_kindT ha) (good_kindT hb) ((three_zero _ _).mpr h)) hk
        · intro h
          exfalso
          obtain ⟨k, n1, lg, l, s, i1, kg, ks⟩ := a
          have hk' : k ≠ kindT b := hk
          simp only [sameT, if_neg hk'] at h
          cases h
end Go.Ab

/- The statement TermOrders. Conditions: limbs in range; texts in range. -/
namespace Go.Ab
open Go.Proofs
set_option maxRecDepth 100000
set_option linter.unusedSimpArgs false

mutual
theorem ht_nod : ∀ t : T, htT t ≤ nodT t
  | .mk _ _ _ _ _ _ _ ks => by have := htK_nod ks; simp only [htT, nodT]; omega
theorem htK_nod : ∀ ks : List T, htK ks ≤ nodK ks
  | [] => Nat.le_refl _
  | t :: r => by have := ht_nod t; have := htK_nod r; simp only [htK, nodK]; omega
end
mutual
theorem good_few : ∀ t : T, goodT t → fewT 100000 t
  | .mk k b lg l s m kg ks, h => by
    have ho := good_own h
    have h1 := ho.2.1
    simp only [ownT, Bool.and_eq_true, decide_eq_true_eq] at h1
    simp only [fewT]
    refine ⟨?_, ?_, goodK_few ks ho.2.2⟩
    · have h2 := h1.2.1.1.1
      by_cases hk : k = 1
      · rw [if_pos hk] at h2
        simp only [chkN, Bool.and_eq_true, decide_eq_true_eq] at h2
        omega
      · rw [if_neg hk] at h2
        simp only [zeroB, Bool.and_eq_true, decide_eq_true_eq] at h2
        omega
    · have h2 := h1.2.1.2
      by_cases k4 : k = 4
      · rw [if_pos k4, decide_eq_true_eq] at h2; omega
      · rw [if_neg k4] at h2
        by_cases k5 : k = 5
        · rw [if_pos k5, decide_eq_true_eq] at h2; omega
        · rw [if_neg k5, decide_eq_true_eq] at h2; omega
theorem goodK_few : ∀ ks : List T, goodK ks → fewK 100000 ks
  | [], _ => by simp only [fewK]
  | t :: r, h => by simp only [goodK] at h; simp only [fewK]; exact ⟨good_few t h.1, goodK_few r h.2⟩
end
theorem qCmp (R : Nat) (hR : 100000 ≤ R) (D : Nat) (hD : 6006 ≤ D) (a b : T) (ha : goodT a) (hb : goodT b) (hn : nodT a ≤ 2000) : evalFn Tryz.prog cfg0 R D 96 [.tree (encT a), .tree (encT b)] = some (.tree (.int .i64 (cmpT a b)), [[], []]) :=
  evalFn_mono hR 6006 D hD _ _ _ (tcmp_eq 2000 6006 a b (by have := ht_nod a; omega) (by omega) (by omega) ha hb)
end Go.Ab

/- The reference's own functions on numbers: reading, normal forms, comparing. Conditions: limbs in range, not too many. -/
namespace Go.Ab
open Go.Proofs
set_option maxRecDepth 100000
set_option linter.unusedSimpArgs false

theorem rat_eq (n d : Nat) (b : Gk) (l : List Nat) (hl : ∀ x ∈ l, x < 4294967296) (i : Int) (hi : 0 ≤ i) : evalFn Tryz.prog cfg0 n (d+1) 98 [.tree (encL b l), .tree (.int .i64 i)] = some (.tree (.int .u64 ((l.getD i.toNat 0 : Nat) : Int)), [[],[]]) := by
  rw [evalFn_go _ Tryz.func98 (by unfold Tryz.f98; rfl) (by unfold Tryz.f98; decide) (Nat.le_of_ble_eq_true (by unfold Tryz.f98; rfl)) (by kernel_rfl)]
  have hx := getD_lt l hl i.toNat
  by_cases h : i < l.length
  · have h' : i.toNat < l.length := by omega
    simp only [zaa, zab, zac, zad, zae, zaf, zag, zah, zai, zaj, zak, zal, zam, zan, zao, zap, zaq, zar, zas, zat, zau, zav, zaw, zax, zay, zaz, zba, zbb, zbc, zbd, zbe, zbf, zbg, zbh, zbi, zbj, zbk, zbl, zbm, zbn, zbo, zbp, zbq, Nat.reduceBEq, Bool.or_self, Bool.or_false, Bool.or_true, Bool.and_true, Bool.and_false, Bool.true_and, Bool.false_and, Option.isNone_none, Option.isNone_some, Option.isSome_some, Option.isSome_none, zbr, zbs, zbt, zbu, zbv, zbw, zbx, zby, zbz, zca, zcb, zcc, zcd, zce, zcf, zcg, zch, zci, zcj, zck, zcl, zcm, zcn, zco, zcp, zcq, zcr, zcs, zct, zcu, zcv, zcw, zcx, zcy, zcz, zda, zdb, zdc, zdd, zde, zdf, zdg, zdh, zdi, zdj, zdk, zdl, zdm, zdn, zdo, zdp, zdq, zdr, zds, Option.getD_some, Option.getD_none, zfg, zfh, zfi, zfj, zfk, zfl, zfm, zfn, Option.map_some, Option.map_none, Option.bind_some, List.map_cons, List.map_nil, List.cons_append, List.nil_append, ↓reduceIte, Nat.reduceEqDiff, Nat.reduceAdd, decide_true, decide_false, Bool.true_eq_false, Bool.false_eq_true, env0, List.getElem?_cons_zero, List.getElem?_cons_succ, zdt, zdu, zdv, zdw, zdx, zdy, zdz, zea, ia22, ld31, zeb, zec, h, hi, h', hx]
    rfl
  · have hx : l.getD i.toNat 0 = 0 := by
      rw [List.getD_eq_getElem?_getD, List.getElem?_eq_none (by omega)]; rfl
    simp only [zaa, zab, zac, zad, zae, zaf, zag, zah, zai, zaj, zak, zal, zam, zan, zao, zap, zaq, zar, zas, zat, zau, zav, zaw, zax, zay, zaz, zba, zbb, zbc, zbd, zbe, zbf, zbg, zbh, zbi, zbj, zbk, zbl, zbm, zbn, zbo, zbp, zbq, Nat.reduceBEq, Bool.or_self, Bool.or_false, Bool.or_true, Bool.and_true, Bool.and_false, Bool.true_and, Bool.false_and, Option.isNone_none, Option.isNone_some, Option.isSome_some, Option.isSome_none, zbr, zbs, zbt, zbu, zbv, zbw, zbx, zby, zbz, zca, zcb, zcc, zcd, zce, zcf, zcg, zch, zci, zcj, zck, zcl, zcm, zcn, zco, zcp, zcq, zcr, zcs, zct, zcu, zcv, zcw, zcx, zcy, zcz, zda, zdb, zdc, zdd, zde, zdf, zdg, zdh, zdi, zdj, zdk, zdl, zdm, zdn, zdo, zdp, zdq, zdr, zds, Option.getD_some, Option.getD_none, zfg, zfh, zfi, zfj, zfk, zfl, zfm, zfn, Option.map_some, Option.map_none, Option.bind_some, List.map_cons, List.map_nil, List.cons_append, List.nil_append, ↓reduceIte, Nat.reduceEqDiff, Nat.reduceAdd, decide_true, decide_false, Bool.true_eq_false, Bool.false_eq_true, env0, List.getElem?_cons_zero, List.getElem?_cons_succ, zdt, zdu, zdv, zdw, zdx, zdy, zdz, zea, ia22, ld31, zeb, zec, h, hx]
    rfl

theorem rat_call (n d : Nat) (b : Gk) (l : List Nat) (hl : Limbs l) (k : Nat) (D : Nat) (s : St) : callA cfg0 (evalFn Tryz.prog cfg0 n (d+1)) D s 98 [encL b l, .int .i64 (k : Int)] = some (.int .u64 ((l.getD k 0 : Nat) : Int), s) :=
  callA_Li _ _ _ _ _ _ _ _ _ (rat_eq n d b l hl k (by omega))
end Go.Ab

/- The reference's own functions on numbers: Cmp, Add, Sub. Conditions: limbs in range, not too many. -/
namespace Go.Ab
open Go.Proofs
set_option maxRecDepth 100000
set_option linter.unusedSimpArgs false

theorem cmpZ_1 (x y : Nat) (h : x < y) : cmpZ x y = -1 := by simp only [cmpZ, h, if_true]
theorem cmpZ_2 (x y : Nat) (h : y < x) : cmpZ x y = 1 := by
  have : ¬ x < y := by omega
  simp only [cmpZ, h, this, if_true, if_false]
theorem rcmp_eq (n d : Nat) (b b' : Gk) (l m : List Nat) (hl : Limbs l) (hm : Limbs m) (hn : l.length < n) (hn' : m.length < n) (hll : l.length ≤ 1000000) (hml : m.length ≤ 1000000) :
    evalFn Tryz.prog cfg0 n (d+2) 70 [.tree (encL b l), .tree (encL b' m)] = some (.tree (.int .i64 (cmpZ (val l) (val m))), [[], []]) := by
  rw [evalFn_go _ Tryz.func70 (by unfold Tryz.f70; rfl) (by unfold Tryz.f70; decide) (Nat.le_of_ble_eq_true (by unfold Tryz.f70; rfl)) (by kernel_rfl)]
  have e0 := i_sub Tryz.prog 3 ((max l.length m.length : Nat) : Int) 1 (by omega) (by omega)
  simp only [zaa, zab, zac, zad, zae, zaf, zag, zah, zai, zaj, zak, zal, zam, zan, zao, zap, zaq, zar, zas, zat, zau, zav, zaw, zax, zay, zaz, zba, zbb, zbc, zbd, zbe, zbf, zbg, zbh, zbi, zbj, zbk, zbl, zbm, zbn, zbo, zbp, zbq, Nat.reduceBEq, Bool.or_self, Bool.or_false, Bool.or_true, Bool.and_true, Bool.and_false, Bool.true_and, Bool.false_and, Option.isNone_none, Option.isNone_some, Option.isSome_some, Option.isSome_none, zbr, zbs, zbt, zbu, zbv, zbw, zbx, zby, zbz, zca, zcb, zcc, zcd, zce, zcf, zcg, zch, zci, zcj, zck, zcl, zcm, zcn, zco, zcp, zcq, zcr, zcs, zct, zcu, zcv, zcw, zcx, zcy, zcz, zda, zdb, zdc, zdd, zde, zdf, zdg, zdh, zdi, zdj, zdk, zdl, zdm, zdn, zdo, zdp, zdq, zdr, zds, Option.getD_some, Option.getD_none, zfg, zfh, zfi, zfj, zfk, zfl, zfm, zfn, Option.map_some, Option.map_none, Option.bind_some, List.map_cons, List.map_nil, List.cons_append, List.nil_append, ↓reduceIte, Nat.reduceEqDiff, Nat.reduceAdd, decide_true, decide_false, Bool.true_eq_false, Bool.false_eq_true, env0, List.getElem?_cons_zero, List.getElem?_cons_succ, zdt, zdu, zdv, zdw, zdx, zdy, zdz, zea, ia22, ld31, zeb, zec, st0_2, max_eq, e0, den_loop]
  refine loop_ends (X := Nat) (fun k env s => env 0 = encL b l ∧ env 1 = encL b' m ∧ env 5 = .int .i64 ((k : Int) - 1) ∧ s = dead ∧ k ≤ max l.length m.length ∧ Alike l m k) id (fun _ => (.tree (.int .i64 (cmpZ (val l) (val m))), [[], []])) ?_ n (max l.length m.length) _ _ (by simp only [id]; omega) ⟨rfl, rfl, rfl, rfl, Nat.le_refl _, alike_top _ _ _ (by omega) (by omega)⟩
  intro k x hx ih env s ⟨h0, h1, h5, hs, hk, hv⟩
  subst hs
  by_cases hp : x = 0
  · subst hp
    have q1 : ¬ (((0 : Nat) : Int) - 1 ≥ 0) := by omega
    simp only [zaa, zab, zac, zad, zae, zaf, zag, zah, zai, zaj, zak, zal, zam, zan, zao, zap, zaq, zar, zas, zat, zau, zav, zaw, zax, zay, zaz, zba, zbb, zbc, zbd, zbe, zbf, zbg, zbh, zbi, zbj, zbk, zbl, zbm, zbn, zbo, zbp, zbq, Nat.reduceBEq, Bool.or_self, Bool.or_false, Bool.or_true, Bool.and_true, Bool.and_false, Bool.true_and, Bool.false_and, Option.isNone_none, Option.isNone_some, Option.isSome_some, Option.isSome_none, zbr, zbs, zbt, zbu, zbv, zbw, zbx, zby, zbz, zca, zcb, zcc, zcd, zce, zcf, zcg, zch, zci, zcj, zck, zcl, zcm, zcn, zco, zcp, zcq, zcr, zcs, zct, zcu, zcv, zcw, zcx, zcy, zcz, zda, zdb, zdc, zdd, zde, zdf, zdg, zdh, zdi, zdj, zdk, zdl, zdm, zdn, zdo, zdp, zdq, zdr, zds, Option.getD_some, Option.getD_none, zfg, zfh, zfi, zfj, zfk, zfl, zfm, zfn, Option.map_some, Option.map_none, Option.bind_some, List.map_cons, List.map_nil, List.cons_append, List.nil_append, ↓reduceIte, Nat.reduceEqDiff, Nat.reduceAdd, decide_true, decide_false, Bool.true_eq_false, Bool.false_eq_true, zdt, zdu, zdv, zdw, zdx, zdy, zdz, zea, ia22, ld31, zeb, zec, h0, h1, h5, q1]
    rw [alike_0 _ _ hv, cmpZ_self]
    exact finish_tree _ _ _ _ _ _ (.int .i64 0) _ _ (by simp only [zfn, ↓reduceIte]) rfl rfl
  · obtain ⟨y, rfl⟩ : ∃ y, x = y + 1 := ⟨x - 1, by omega⟩
    have p2 : ((y + 1 : Nat) : Int) - 1 = (y : Int) := by omega
    rw [p2] at h5
    have p6 : (y : Int) ≥ 0 := by omega
    have e1 := i_sub Tryz.prog 3 (y : Int) 1 (by omega) (by omega)
    have c1 := rat_call n d b l hl y
    have c2 := rat_call n d b' m hm y
    by_cases hz : l.getD y 0 < m.getD y 0
    · have p5 : ((l.getD y 0 : Nat) : Int) < ((m.getD y 0 : Nat) : Int) := by omega
      simp only [zaa, zab, zac, zad, zae, zaf, zag, zah, zai, zaj, zak, zal, zam, zan, zao, zap, zaq, zar, zas, zat, zau, zav, zaw, zax, zay, zaz, zba, zbb, zbc, zbd, zbe, zbf, zbg, zbh, zbi, zbj, zbk, zbl, zbm, zbn, zbo, zbp, zbq, Nat.reduceBEq, Bool.or_self, Bool.or_false, Bool.or_true, Bool.and_true, Bool.and_false, Bool.true_and, Bool.false_and, Option.isNone_none, Option.isNone_some, Option.isSome_some, Option.isSome_none, zbr, zbs, zbt, zbu, zbv, zbw, zbx, zby, zbz, zca, zcb, zcc, zcd, zce, zcf, zcg, zch, zci, zcj, zck, zcl, zcm, zcn, zco, zcp, zcq, zcr, zcs, zct, zcu, zcv, zcw, zcx, zcy, zcz, zda, zdb, zdc, zdd, zde, zdf, zdg, zdh, zdi, zdj, zdk, zdl, zdm, zdn, zdo, zdp, zdq, zdr, zds, Option.getD_some, Option.getD_none, zfg, zfh, zfi, zfj, zfk, zfl, zfm, zfn, Option.map_some, Option.map_none, Option.bind_some, List.map_cons, List.map_nil, List.cons_append, List.nil_append, ↓reduceIte, Nat.reduceEqDiff, Nat.reduceAdd, decide_true, decide_false, Bool.true_eq_false, Bool.false_eq_true, zdt, zdu, zdv, zdw, zdx, zdy, zdz, zea, ia22, ld31, zeb, zec, h0, h1, h5, p6, c1, c2, e1, p5]
      rw [alike_ne _ _ hl hm _ hv (by omega), cmpZ_1 _ _ hz]
      exact finish_tree _ _ _ _ _ _ (.int .i64 (-1)) _ _ (by simp only [zfn, ↓reduceIte, Nat.reduceEqDiff]) rfl rfl
    · have p5 : ¬ ((l.getD y 0 : Nat) : Int) < ((m.getD y 0 : Nat) : Int) := by omega
      by_cases hy : m.getD y 0 < l.getD y 0
      · have p7 : ((l.getD y 0 : Nat) : Int) > ((m.getD y 0 : Nat) : Int) := by omega
        simp only [zaa, zab, zac, zad, zae, zaf, zag, zah, zai, zaj, zak, zal, zam, zan, zao, zap, zaq, zar, zas, zat, zau, zav, zaw, zax, zay, zaz, zba, zbb, zbc, zbd, zbe, zbf, zbg, zbh, zbi, zbj, zbk, zbl, zbm, zbn, zbo, zbp, zbq, Nat.reduceBEq, Bool.or_self, Bool.or_false, Bool.or_true, Bool.and_true, Bool.and_false, Bool.true_and, Bool.false_and, Option.isNone_none, Option.isNone_some, Option.isSome_some, Option.isSome_none, zbr, zbs, zbt, zbu, zbv, zbw, zbx, zby, zbz, zca, zcb, zcc, zcd, zce, zcf, zcg, zch, zci, zcj, zck, zcl, zcm, zcn, zco, zcp, zcq, zcr, zcs, zct, zcu, zcv, zcw, zcx, zcy, zcz, zda, zdb, zdc, zdd, zde, zdf, zdg, zdh, zdi, zdj, zdk, zdl, zdm, zdn, zdo, zdp, zdq, zdr, zds, Option.getD_some, Option.getD_none, zfg, zfh, zfi, zfj, zfk, zfl, zfm, zfn, Option.map_some, Option.map_none, Option.bind_some, List.map_cons, List.map_nil, List.cons_append, List.nil_append, ↓reduceIte, Nat.reduceEqDiff, Nat.reduceAdd, decide_true, decide_false, Bool.true_eq_false, Bool.false_eq_true, zdt, zdu, zdv, zdw, zdx, zdy, zdz, zea, ia22, ld31, zeb, zec, h0, h1, h5, p6, c1, c2, e1, p5, p7]
        rw [alike_ne _ _ hl hm _ hv (by omega), cmpZ_2 _ _ hy]
        exact finish_tree _ _ _ _ _ _ (.int .i64 1) _ _ (by simp only [zfn, ↓reduceIte, Nat.reduceEqDiff]) rfl rfl
      · have p7 : ¬ ((l.getD y 0 : Nat) : Int) > ((m.getD y 0 : Nat) : Int) := by omega
        simp only [zaa, zab, zac, zad, zae, zaf, zag, zah, zai, zaj, zak, zal, zam, zan, zao, zap, zaq, zar, zas, zat, zau, zav, zaw, zax, zay, zaz, zba, zbb, zbc, zbd, zbe, zbf, zbg, zbh, zbi, zbj, zbk, zbl, zbm, zbn, zbo, zbp, zbq, Nat.reduceBEq, Bool.or_self, Bool.or_false, Bool.or_true, Bool.and_true, Bool.and_false, Bool.true_and, Bool.false_and, Option.isNone_none, Option.isNone_some, Option.isSome_some, Option.isSome_none, zbr, zbs, zbt, zbu, zbv, zbw, zbx, zby, zbz, zca, zcb, zcc, zcd, zce, zcf, zcg, zch, zci, zcj, zck, zcl, zcm, zcn, zco, zcp, zcq, zcr, zcs, zct, zcu, zcv, zcw, zcx, zcy, zcz, zda, zdb, zdc, zdd, zde, zdf, zdg, zdh, zdi, zdj, zdk, zdl, zdm, zdn, zdo, zdp, zdq, zdr, zds, Option.getD_some, Option.getD_none, zfg, zfh, zfi, zfj, zfk, zfl, zfm, zfn, Option.map_some, Option.map_none, Option.bind_some, List.map_cons, List.map_nil, List.cons_append, List.nil_append, ↓reduceIte, Nat.reduceEqDiff, Nat.reduceAdd, decide_true, decide_false, Bool.true_eq_false, Bool.false_eq_true, zdt, zdu, zdv, zdw, zdx, zdy, zdz, zea, ia22, ld31, zeb, zec, h0, h1, h5, p6, c1, c2, e1, p5, p7]
        refine ih y _ _ (Nat.lt_succ_self _) rfl ⟨?_, ?_, ?_, rfl, by omega, alike_down _ _ _ hv (by omega)⟩
        · simp only [zfn, ↓reduceIte, Nat.reduceEqDiff, h0]
        · simp only [zfn, ↓reduceIte, Nat.reduceEqDiff, h1]
        · simp only [zfn, ↓reduceIte, Nat.reduceEqDiff]
end Go.Ab

/- The reference's own functions on numbers: Add, Sub. Conditions: limbs in range, not too many. -/
namespace Go.Ab
open Go.Proofs
set_option maxRecDepth 100000
set_option linter.unusedSimpArgs false

end Go.Ab

/- The reference's Sub. Conditions: limbs in range, not too many. -/
namespace Go.Ab
open Go.Proofs
set_option maxRecDepth 100000
set_option linter.unusedSimpArgs false

end Go.Ab

/- The reference's Mul. Conditions: limbs in range, not too many. -/
namespace Go.Ab
open Go.Proofs
set_option maxRecDepth 100000
set_option linter.unusedSimpArgs false

end Go.Ab

/- The reference's Shr. Conditions: limbs in range, not too many. -/
namespace Go.Ab
open Go.Proofs
set_option maxRecDepth 100000
set_option linter.unusedSimpArgs false

end Go.Ab

/- The reference's Len. Conditions: limbs in range, not too many. -/
namespace Go.Ab
open Go.Proofs
set_option maxRecDepth 100000
set_option linter.unusedSimpArgs false

end Go.Ab

/- The reference's Shl. Conditions: limbs in range, not too many. -/
namespace Go.Ab
open Go.Proofs
set_option maxRecDepth 100000
set_option linter.unusedSimpArgs false

end Go.Ab

/- The reference's Div. Conditions: limbs in range, not too many. -/
namespace Go.Ab
open Go.Proofs
set_option maxRecDepth 100000
set_option linter.unusedSimpArgs false

section
variable (n d : Nat) (hn : 100000 ≤ n) (D : Nat) (s : St)
include hn
theorem rcCmp {w w' : AV} {v v' : Nat} (h : Num w v) (h' : Num w' v') : callA cfg0 (evalFn Tryz.prog cfg0 n (d+2)) D s 70 [w, w'] = some (.int .i64 (cmpZ v v'), s) := by
  obtain ⟨l, hs, hl, hk, rfl⟩ := h
  obtain ⟨l', hs', hl', hk', rfl⟩ := h'
  exact callA_S2 _ D s 70 hs hs' _ fun b b' => rcmp_eq n d b b' l l' hl hl' (by omega) (by omega) (by omega) (by omega)
end
end Go.Ab

/- The reference's numbers: what is a number, made of limbs, of ints; its compare. Conditions: limbs in range. -/
namespace Go.Ab
open Go.Proofs
set_option maxRecDepth 100000
set_option linter.unusedSimpArgs false

set_option maxHeartbeats 2000000 in
theorem ris_eq (n d : Nat) (neg : Bool) (g : Gk) (l : List Nat) (hl : Limbs l) : evalFn Tryz.prog cfg0 n (d+2) 69 [.tree (encA neg g l)] = some (.tree (canA (gz neg g l) (numZ neg l)), [[]]) := by
  rw [evalFn_go _ Tryz.func69 (by unfold Tryz.f69; rfl) (by unfold Tryz.f69; decide) (Nat.le_of_ble_eq_true (by unfold Tryz.f69; rfl)) (by kernel_rfl)]
  have c1 := fun D s => cRcheck n d neg g l hl D s
  cases h : chkN neg l with
  | false =>
    rw [canA_no h]
    simp only [zaa, zab, zac, zad, zae, zaf, zag, zah, zai, zaj, zak, zal, zam, zan, zao, zap, zaq, zar, zas, zat, zau, zav, zaw, zax, zay, zaz, zba, zbb, zbc, zbd, zbe, zbf, zbg, zbh, zbi, zbj, zbk, zbl, zbm, zbn, zbo, zbp, zbq, Nat.reduceBEq, Bool.or_self, Bool.or_false, Bool.or_true, Bool.and_true, Bool.and_false, Bool.true_and, Bool.false_and, Option.isNone_none, Option.isNone_some, Option.isSome_some, Option.isSome_none, zbr, zbs, zbt, zbu, zbv, zbw, zbx, zby, zbz, zca, zcb, zcc, zcd, zce, zcf, zcg, zch, zci, zcj, zck, zcl, zcm, zcn, zco, zcp, zcq, zcr, zcs, zct, zcu, zcv, zcw, zcx, zcy, zcz, zda, zdb, zdc, zdd, zde, zdf, zdg, zdh, zdi, zdj, zdk, zdl, zdm, zdn, zdo, zdp, zdq, zdr, zds, Option.getD_some, Option.getD_none, zfg, zfh, zfi, zfj, zfk, zfl, zfm, zfn, Option.map_some, Option.map_none, Option.bind_some, List.map_cons, List.map_nil, List.cons_append, List.nil_append, ↓reduceIte, Nat.reduceEqDiff, Nat.reduceAdd, decide_true, decide_false, Bool.true_eq_false, Bool.false_eq_true, env0, List.getElem?_cons_zero, List.getElem?_cons_succ, zdt, zdu, zdv, zdw, zdx, zdy, zdz, zea, ia22, ld31, zeb, zec, zed, zee, zef, zeg, zeh, zei, zej, zek, zel, zem, zen, zeo, zep, fa_0, fa_1, zeq, bd_0, bd_2, zer, fd_1, zes, Nat.zero_add, st0_1, c1, h]
    exact finish_c _ _ 2 2 1 _ _ _ _ _ (by simp only [zfn, ↓reduceIte, Nat.reduceEqDiff]) (by simp only [zfn, ↓reduceIte, Nat.reduceEqDiff]) rfl
  | true =>
    rw [canA_of hl h]
    simp only [zaa, zab, zac, zad, zae, zaf, zag, zah, zai, zaj, zak, zal, zam, zan, zao, zap, zaq, zar, zas, zat, zau, zav, zaw, zax, zay, zaz, zba, zbb, zbc, zbd, zbe, zbf, zbg, zbh, zbi, zbj, zbk, zbl, zbm, zbn, zbo, zbp, zbq, Nat.reduceBEq, Bool.or_self, Bool.or_false, Bool.or_true, Bool.and_true, Bool.and_false, Bool.true_and, Bool.false_and, Option.isNone_none, Option.isNone_some, Option.isSome_some, Option.isSome_none, zbr, zbs, zbt, zbu, zbv, zbw, zbx, zby, zbz, zca, zcb, zcc, zcd, zce, zcf, zcg, zch, zci, zcj, zck, zcl, zcm, zcn, zco, zcp, zcq, zcr, zcs, zct, zcu, zcv, zcw, zcx, zcy, zcz, zda, zdb, zdc, zdd, zde, zdf, zdg, zdh, zdi, zdj, zdk, zdl, zdm, zdn, zdo, zdp, zdq, zdr, zds, Option.getD_some, Option.getD_none, zfg, zfh, zfi, zfj, zfk, zfl, zfm, zfn, Option.map_some, Option.map_none, Option.bind_some, List.map_cons, List.map_nil, List.cons_append, List.nil_append, ↓reduceIte, Nat.reduceEqDiff, Nat.reduceAdd, decide_true, decide_false, Bool.true_eq_false, Bool.false_eq_true, env0, List.getElem?_cons_zero, List.getElem?_cons_succ, zdt, zdu, zdv, zdw, zdx, zdy, zdz, zea, ia22, ld31, zeb, zec, zed, zee, zef, zeg, zeh, zei, zej, zek, zel, zem, zen, zeo, zep, fa_0, fa_1, zeq, bd_0, bd_2, zer, fd_1, zes, Nat.zero_add, st0_1, c1, h]
    exact finish_c _ _ 2 2 1 _ _ _ _ _ (by simp only [zfn, ↓reduceIte, Nat.reduceEqDiff]) (by simp only [zfn, ↓reduceIte, Nat.reduceEqDiff]) rfl
theorem qRis (n d : Nat) {w : AV} {z : Int} (h : IsN w z) : ∃ g, callQ (evalFn Tryz.prog cfg0 n (d+2)) 69 [w] = some (canA g z) := by
  obtain ⟨neg, g, l, rfl, hl, rfl⟩ := h
  exact ⟨_, callQ_trees rfl (ris_eq n d neg g l hl)⟩
def gm (z : Int) : Gk := if z.natAbs < B ^ 12 then .l else .n
section
variable (n d : Nat) (hn : 100000 ≤ n) (D : Nat) (s : St)
include hn
end
set_option maxHeartbeats 4000000 in
theorem rncmp_eq (n d : Nat) (hn : 100000 ≤ n) {w w' : AV} {z z' : Int} (hw : IsN w z) (hw' : IsN w' z') : evalFn Tryz.prog cfg0 n (d+4) 46 [.tree w, .tree w'] = some (.tree (.int .i64 (cmpI z z')), [[], []]) := by
  obtain ⟨g, c1⟩ := qRis n (d + 1) hw
  obtain ⟨g', c2⟩ := qRis n (d + 1) hw'
  have hlt := hw.lt
  have hlt' := hw'.lt
  obtain ⟨neg, g0, l, rfl, hl, hz⟩ := hw
  obtain ⟨neg', g0', l', rfl, hl', hz'⟩ := hw'
  rw [evalFn_go _ Tryz.func46 (by unfold Tryz.f46; rfl) (by unfold Tryz.f46; decide) (Nat.le_of_ble_eq_true (by unfold Tryz.f46; rfl)) (by kernel_rfl)]
  by_cases ha : z < 0
  · by_cases hb : z' < 0
    · have c3 := fun D s => rcCmp n (d + 1) hn D s (num_can g' z' hlt') (num_can g z hlt)
      rw [cmp_mm z z' ha hb] at c3
      simp only [zaa, zab, zac, zad, zae, zaf, zag, zah, zai, zaj, zak, zal, zam, zan, zao, zap, zaq, zar, zas, zat, zau, zav, zaw, zax, zay, zaz, zba, zbb, zbc, zbd, zbe, zbf, zbg, zbh, zbi, zbj, zbk, zbl, zbm, zbn, zbo, zbp, zbq, Nat.reduceBEq, Bool.or_self, Bool.or_false, Bool.or_true, Bool.and_true, Bool.and_false, Bool.true_and, Bool.false_and, Option.isNone_none, Option.isNone_some, Option.isSome_some, Option.isSome_none, zbr, zbs, zbt, zbu, zbv, zbw, zbx, zby, zbz, zca, zcb, zcc, zcd, zce, zcf, zcg, zch, zci, zcj, zck, zcl, zcm, zcn, zco, zcp, zcq, zcr, zcs, zct, zcu, zcv, zcw, zcx, zcy, zcz, zda, zdb, zdc, zdd, zde, zdf, zdg, zdh, zdi, zdj, zdk, zdl, zdm, zdn, zdo, zdp, zdq, zdr, zds, Option.getD_some, Option.getD_none, zfg, zfh, zfi, zfj, zfk, zfl, zfm, zfn, Option.map_some, Option.map_none, Option.bind_some, List.map_cons, List.map_nil, List.cons_append, List.nil_append, ↓reduceIte, Nat.reduceEqDiff, Nat.reduceAdd, decide_true, decide_false, Bool.true_eq_false, Bool.false_eq_true, env0, List.getElem?_cons_zero, List.getElem?_cons_succ, zdt, zdu, zdv, zdw, zdx, zdy, zdz, zea, ia22, ld31, zeb, zec, zed, zee, zef, zeg, zeh, zei, zej, zek, zel, zem, zen, zeo, zep, fa_0, fa_1, zeq, bd_0, bd_2, zer, fd_1, zes, Nat.zero_add, st0_2, c1, c2, ha, hb, unA_not', Bool.not_true, Bool.not_false, c3]
      exact finish_i _ _ _ _ _ _ _ (by simp only [zfn, ↓reduceIte]) rfl
    · simp only [zaa, zab, zac, zad, zae, zaf, zag, zah, zai, zaj, zak, zal, zam, zan, zao, zap, zaq, zar, zas, zat, zau, zav, zaw, zax, zay, zaz, zba, zbb, zbc, zbd, zbe, zbf, zbg, zbh, zbi, zbj, zbk, zbl, zbm, zbn, zbo, zbp, zbq, Nat.reduceBEq, Bool.or_self, Bool.or_false, Bool.or_true, Bool.and_true, Bool.and_false, Bool.true_and, Bool.false_and, Option.isNone_none, Option.isNone_some, Option.isSome_some, Option.isSome_none, zbr, zbs, zbt, zbu, zbv, zbw, zbx, zby, zbz, zca, zcb, zcc, zcd, zce, zcf, zcg, zch, zci, zcj, zck, zcl, zcm, zcn, zco, zcp, zcq, zcr, zcs, zct, zcu, zcv, zcw, zcx, zcy, zcz, zda, zdb, zdc, zdd, zde, zdf, zdg, zdh, zdi, zdj, zdk, zdl, zdm, zdn, zdo, zdp, zdq, zdr, zds, Option.getD_some, Option.getD_none, zfg, zfh, zfi, zfj, zfk, zfl, zfm, zfn, Option.map_some, Option.map_none, Option.bind_some, List.map_cons, List.map_nil, List.cons_append, List.nil_append, ↓reduceIte, Nat.reduceEqDiff, Nat.reduceAdd, decide_true, decide_false, Bool.true_eq_false, Bool.false_eq_true, env0, List.getElem?_cons_zero, List.getElem?_cons_succ, zdt, zdu, zdv, zdw, zdx, zdy, zdz, zea, ia22, ld31, zeb, zec, zed, zee, zef, zeg, zeh, zei, zej, zek, zel, zem, zen, zeo, zep, fa_0, fa_1, zeq, bd_0, bd_2, zer, fd_1, zes, Nat.zero_add, st0_2, c1, c2, ha, hb, unA_not', Bool.not_true, Bool.not_false]
      rw [show cmpI z z' = -1 by rw [cmpI, if_pos (by omega)]]
      exact finish_i _ _ _ _ _ _ _ (by simp only [zfn, ↓reduceIte]) rfl
  · by_cases hb : z' < 0
    · simp only [zaa, zab, zac, zad, zae, zaf, zag, zah, zai, zaj, zak, zal, zam, zan, zao, zap, zaq, zar, zas, zat, zau, zav, zaw, zax, zay, zaz, zba, zbb, zbc, zbd, zbe, zbf, zbg, zbh, zbi, zbj, zbk, zbl, zbm, zbn, zbo, zbp, zbq, Nat.reduceBEq, Bool.or_self, Bool.or_false, Bool.or_true, Bool.and_true, Bool.and_false, Bool.true_and, Bool.false_and, Option.isNone_none, Option.isNone_some, Option.isSome_some, Option.isSome_none, zbr, zbs, zbt, zbu, zbv, zbw, zbx, zby, zbz, zca, zcb, zcc, zcd, zce, zcf, zcg, zch, zci, zcj, zck, zcl, zcm, zcn, zco, zcp, zcq, zcr, zcs, zct, zcu, zcv, zcw, zcx, zcy, zcz, zda, zdb, zdc, zdd, zde, zdf, zdg, zdh, zdi, zdj, zdk, zdl, zdm, zdn, zdo, zdp, zdq, zdr, zds, Option.getD_some, Option.getD_none, zfg, zfh, zfi, zfj, zfk, zfl, zfm, zfn, Option.map_some, Option.map_none, Option.bind_some, List.map_cons, List.map_nil, List.cons_append, List.nil_append, ↓reduceIte, Nat.reduceEqDiff, Nat.reduceAdd, decide_true, decide_false, Bool.true_eq_false, Bool.false_eq_true, env0, List.getElem?_cons_zero, List.getElem?_cons_succ, zdt, zdu, zdv, zdw, zdx, zdy, zdz, zea, ia22, ld31, zeb, zec, zed, zee, zef, zeg, zeh, zei, zej, zek, zel, zem, zen, zeo, zep, fa_0, fa_1, zeq, bd_0, bd_2, zer, fd_1, zes, Nat.zero_add, st0_2, c1, c2, ha, hb, unA_not', Bool.not_true, Bool.not_false]
      rw [show cmpI z z' = 1 by rw [cmpI, if_neg (by omega), if_pos (by omega)]]
      exact finish_i _ _ _ _ _ _ _ (by simp only [zfn, ↓reduceIte]) rfl
    · have c3 := fun D s => rcCmp n (d + 1) hn D s (num_can g z hlt) (num_can g' z' hlt')
      rw [cmp_nn z z' ha hb] at c3
      simp only [zaa, zab, zac, zad, zae, zaf, zag, zah, zai, zaj, zak, zal, zam, zan, zao, zap, zaq, zar, zas, zat, zau, zav, zaw, zax, zay, zaz, zba, zbb, zbc, zbd, zbe, zbf, zbg, zbh, zbi, zbj, zbk, zbl, zbm, zbn, zbo, zbp, zbq, Nat.reduceBEq, Bool.or_self, Bool.or_false, Bool.or_true, Bool.and_true, Bool.and_false, Bool.true_and, Bool.false_and, Option.isNone_none, Option.isNone_some, Option.isSome_some, Option.isSome_none, zbr, zbs, zbt, zbu, zbv, zbw, zbx, zby, zbz, zca, zcb, zcc, zcd, zce, zcf, zcg, zch, zci, zcj, zck, zcl, zcm, zcn, zco, zcp, zcq, zcr, zcs, zct, zcu, zcv, zcw, zcx, zcy, zcz, zda, zdb, zdc, zdd, zde, zdf, zdg, zdh, zdi, zdj, zdk, zdl, zdm, zdn, zdo, zdp, zdq, zdr, zds, Option.getD_some, Option.getD_none, zfg, zfh, zfi, zfj, zfk, zfl, zfm, zfn, Option.map_some, Option.map_none, Option.bind_some, List.map_cons, List.map_nil, List.cons_append, List.nil_append, ↓reduceIte, Nat.reduceEqDiff, Nat.reduceAdd, decide_true, decide_false, Bool.true_eq_false, Bool.false_eq_true, env0, List.getElem?_cons_zero, List.getElem?_cons_succ, zdt, zdu, zdv, zdw, zdx, zdy, zdz, zea, ia22, ld31, zeb, zec, zed, zee, zef, zeg, zeh, zei, zej, zek, zel, zem, zen, zeo, zep, fa_0, fa_1, zeq, bd_0, bd_2, zer, fd_1, zes, Nat.zero_add, st0_2, c1, c2, ha, hb, unA_not', Bool.not_true, Bool.not_false, c3]
      exact finish_i _ _ _ _ _ _ _ (by simp only [zfn, ↓reduceIte]) rfl
end Go.Ab

/- Small Ints as terms; rows and lists of them, compared. Conditions: numbers that Go has. -/
namespace Go.Ab
open Go.Proofs
set_option maxRecDepth 100000
set_option linter.unusedSimpArgs false

def I64 (v : Int) : Prop := -9223372036854775808 ≤ v ∧ v ≤ 9223372036854775807
def intT (v : Int) : T := .mk 1 (decide (v < 0)) .l (digs v.natAbs) [] 0 .n []
def nilT' : T := .mk 3 false .n [] [] 0 .n []
def tupT (kg : Gk) (us : List T) : T := .mk 5 false .n [] [] 0 kg us
/-! ### Compared -/
end Go.Ab

/- The statement TermTuples. Conditions: numbers that Go has. -/
namespace Go.Ab
open Go.Proofs
set_option maxRecDepth 100000
set_option linter.unusedSimpArgs false

def intsA (xs : List Int) : List AV := xs.map (AV.int .i64)
theorem bs1T (e : T) : (fillA (fun i => some (i * 6, 6)) (rep 1 zeroT6) [(0, .agg (cellsT e))]).map (AV.sl · 1 .tight) = some (.sl (cellsT e) 1 .tight) := by
  have h := cellsT_len e
  have a1 : splice (rep 1 zeroT6) (0 * 6) (cellsT e) = cellsT e := by
    simp only [splice, Nat.zero_mul, List.take_zero, List.nil_append, Nat.zero_add, h]; exact List.append_nil _
  simp only [fillA, settled, Option.bind_some, cellsOf]
  rw [if_pos ⟨h, by decide⟩, a1]
  rfl
theorem opA_bs1 (call : FuncId → List Arg → Option Out) (q : Bool) (d : Option Tmp) (ty : TypeId) (pos : String) (af : Array Edge) (g : Option (Nat × Bool)) (t : Nat) (env : Env) (s : St) (x : Operand) (e : T) (hx : ev env x = .agg (cellsT e)) :
    opA Tryz.prog cfg0 call q ⟨d, .buildSlice 22 1 #[(0, x)], ty, pos, af, g⟩ t env s = some (.sl (cellsT e) 1 .tight, s) := by
  simp only [opA, tkTk, eszT, zeroT, Option.bind_some, List.map_cons, List.map_nil, hx]
  rw [if_pos ⟨by rfl, by decide⟩]
  show Option.map _ (Option.map _ (fillA (fun i => some (i * 6, 6)) (rep 1 zeroT6) [(0, .agg (cellsT e))])) = _
  have := bs1T e
  rw [this]; rfl
/-- A row that was made, in a term, in a list: what a region that draws its order makes of it. -/
theorem Ap.tup {s : St} {d : Nat} {x : AV} {us : List T} (h : Ap s d x us) : buildA Tryz.prog 29 [(0, .int .i64 5), (4, x)] = some (.agg (cellsT (tupT (kgOf us) us))) := by
  have hs := h.settled
  simp only [buildA, zeroT, tkT, plT, Option.bind_some, fillA, List.getElem?_cons_zero, List.getElem?_cons_succ, hs]
  simp only [tupT, cellsT, encL, encC, List.map_nil, List.length_nil, gr]
  rfl
theorem Ap.list {s : St} {d : Nat} {x : AV} {us : List T} (h : Ap s d x us) (hl : us.length ≤ 1000000) (R D : Nat) : callQ (evalFn Tryz.prog cfg0 R (D+1)) 91 [x, encT nilT'] = some (encT (listT us nilT')) := by
  rcases h with ⟨rfl, rfl⟩ | ⟨_, t, rfl, _⟩
  · exact callQ_trees (vs := [.sl [] 0 .nil, encT nilT']) rfl (tList_eq R D [] .nil nilT' (by decide))
  · exact callQ_loose (vs := [.sl (cellsK us) us.length (.tok d t), encT nilT']) rfl rfl rfl (tList_eq R D us .loose nilT' (by omega))

section
variable (R : Nat) (hR : 100000 ≤ R) (xs ys : List Int) (hx : ∀ x ∈ xs, I64 x) (hy : ∀ x ∈ ys, I64 x) (hxk : xs.length ≤ 30) (hyk : ys.length ≤ 30) (gx gy : Grip) (x5 x6 : AV) (s1 s2 : St) (ap : Ap s1 36 x5 (xs.map intT)) (ap2 : Ap s2 50 x6 (ys.map intT))
include hR hx hy hxk hyk ap ap2
end
end Go.Ab
