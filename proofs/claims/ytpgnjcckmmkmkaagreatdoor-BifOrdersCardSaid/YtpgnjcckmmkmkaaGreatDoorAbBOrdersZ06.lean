/- Several texts put together: AbzT15, AbzT16, AbMono. Conditions: as each part says. -/
import Derived.Test.YtpgnjcckmmkmkaaGreatDoorAbBOrdersZ05
import Derived.Test.YtpgnjcckmmkmkaaGreatDoorAbBOrdersZ00
/- term.Same, walked. Conditions: so many limbs, nodes at most. -/
namespace Go.Ab
open Go.Proofs
set_option maxRecDepth 100000
set_option linter.unusedSimpArgs false

theorem eqLG_eq (n d : Nat) (b b' : Gk) (l m : List Nat) (hn : l.length < n) (hk : l.length ≤ 1000000) : evalFn Tryz.prog cfg0 n (d+1) 140 [.tree (encL b l), .tree (encL b' m)] = some (.tree (.bool (decide (l = m))), [[], []]) := by
  rw [evalFn_go _ Tryz.func140 (by unfold Tryz.f140; rfl) (by unfold Tryz.f140; decide) (Nat.le_of_ble_eq_true (by unfold Tryz.f140; rfl)) (by kernel_rfl)]
  by_cases hlm : l.length = m.length
  · have p1 : ((l.length : Int) != (m.length : Int)) = false := by rw [hlm]; exact bne_self_eq_false _
    simp only [zaa, zab, zac, zad, zae, zaf, zag, zah, zai, zaj, zak, zal, zam, zan, zao, zap, zaq, zar, zas, zat, zau, zav, zaw, zax, zay, zaz, zba, zbb, zbc, zbd, zbe, zbf, zbg, zbh, zbi, zbj, zbk, zbl, zbm, zbn, zbo, zbp, zbq, Nat.reduceBEq, Bool.or_self, Bool.or_false, Bool.or_true, Bool.and_true, Bool.and_false, Bool.true_and, Bool.false_and, Option.isNone_none, Option.isNone_some, Option.isSome_some, Option.isSome_none, zbr, zbs, zbt, zbu, zbv, zbw, zbx, zby, zbz, zca, zcb, zcc, zcd, zce, zcf, zcg, zch, zci, zcj, zck, zcl, zcm, zcn, zco, zcp, zcq, zcr, zcs, zct, zcu, zcv, zcw, zcx, zcy, zcz, zda, zdb, zdc, zdd, zde, zdf, zdg, zdh, zdi, zdj, zdk, zdl, zdm, zdn, zdo, zdp, zdq, zdr, zds, Option.getD_some, Option.getD_none, zfg, zfh, zfi, zfj, zfk, zfl, zfm, zfn, Option.map_some, Option.map_none, Option.bind_some, List.map_cons, List.map_nil, List.cons_append, List.nil_append, ↓reduceIte, Nat.reduceEqDiff, Nat.reduceAdd, decide_true, decide_false, Bool.true_eq_false, Bool.false_eq_true, env0, List.getElem?_cons_zero, List.getElem?_cons_succ, zdt, zdu, zdv, zdw, zdx, zdy, zdz, zea, ia22, ld31, zeb, zec, p1, den_loop]
    refine loop_ends (X := Nat) (fun i env _ => env 0 = encL b l ∧ env 1 = encL b' m ∧ env 12 = .int .i64 (l.length : Int) ∧ env 13 = .int .i64 (i : Int) ∧ i ≤ l.length ∧ (l.drop i = m.drop i ↔ l = m)) (fun i => l.length - i) (fun _ => (.tree (.bool (decide (l = m))), [[], []])) ?_ n 0 _ _ (by omega) ⟨(by first | (simp only [zfn, ↓reduceIte, Nat.reduceEqDiff, env0, List.getElem?_cons_zero, List.getElem?_cons_succ]; done) | (simp only [zfn, ↓reduceIte, Nat.reduceEqDiff, env0, List.getElem?_cons_zero, List.getElem?_cons_succ]; rfl)), (by first | (simp only [zfn, ↓reduceIte, Nat.reduceEqDiff, env0, List.getElem?_cons_zero, List.getElem?_cons_succ]; done) | (simp only [zfn, ↓reduceIte, Nat.reduceEqDiff, env0, List.getElem?_cons_zero, List.getElem?_cons_succ]; rfl)), (by first | (simp only [zfn, ↓reduceIte, Nat.reduceEqDiff]; done) | (simp only [zfn, ↓reduceIte, Nat.reduceEqDiff]; rfl)), (by first | (simp only [zfn, ↓reduceIte, Nat.reduceEqDiff]; done) | (simp only [zfn, ↓reduceIte, Nat.reduceEqDiff]; rfl)), Nat.zero_le _, Iff.rfl⟩
    intro k i hx ih env s ⟨h0, h1, h2, h5, hi, hd⟩
    by_cases hp : i = l.length
    · have e : l = m := by
        rw [← hd, hp, List.drop_length, hlm, List.drop_length]
      rw [decide_eq_true e]
      have q1 : ¬ ((i : Int) < (l.length : Int)) := by omega
      simp only [zaa, zab, zac, zad, zae, zaf, zag, zah, zai, zaj, zak, zal, zam, zan, zao, zap, zaq, zar, zas, zat, zau, zav, zaw, zax, zay, zaz, zba, zbb, zbc, zbd, zbe, zbf, zbg, zbh, zbi, zbj, zbk, zbl, zbm, zbn, zbo, zbp, zbq, Nat.reduceBEq, Bool.or_self, Bool.or_false, Bool.or_true, Bool.and_true, Bool.and_false, Bool.true_and, Bool.false_and, Option.isNone_none, Option.isNone_some, Option.isSome_some, Option.isSome_none, zbr, zbs, zbt, zbu, zbv, zbw, zbx, zby, zbz, zca, zcb, zcc, zcd, zce, zcf, zcg, zch, zci, zcj, zck, zcl, zcm, zcn, zco, zcp, zcq, zcr, zcs, zct, zcu, zcv, zcw, zcx, zcy, zcz, zda, zdb, zdc, zdd, zde, zdf, zdg, zdh, zdi, zdj, zdk, zdl, zdm, zdn, zdo, zdp, zdq, zdr, zds, Option.getD_some, Option.getD_none, zfg, zfh, zfi, zfj, zfk, zfl, zfm, zfn, Option.map_some, Option.map_none, Option.bind_some, List.map_cons, List.map_nil, List.cons_append, List.nil_append, ↓reduceIte, Nat.reduceEqDiff, Nat.reduceAdd, decide_true, decide_false, Bool.true_eq_false, Bool.false_eq_true, zdt, zdu, zdv, zdw, zdx, zdy, zdz, zea, ia22, ld31, zeb, zec, h0, h1, h2, h5, q1]
      exact finish_b _ _ _ _ _ _ _ (by first | (simp only [zfn, ↓reduceIte, Nat.reduceEqDiff]; done) | (simp only [zfn, ↓reduceIte, Nat.reduceEqDiff]; rfl)) rfl
    · have q1 : (i : Int) < (l.length : Int) := by omega
      have q2 : (0 : Int) ≤ (i : Int) := by omega
      have q3 : i < l.length := by omega
      have q4 : i < m.length := by omega
      have q5 : (i : Int) < (m.length : Int) := by omega
      have f4 := i_add Tryz.prog 3 (i : Int) 1 (by omega) (by omega)
      have dl : l.drop i = l.getD i 0 :: l.drop (i + 1) := by rw [List.getD_eq_getElem?_getD, List.getElem?_eq_getElem q3]; exact List.drop_eq_getElem_cons q3
      have dm : m.drop i = m.getD i 0 :: m.drop (i + 1) := by rw [List.getD_eq_getElem?_getD, List.getElem?_eq_getElem q4]; exact List.drop_eq_getElem_cons q4
      rw [dl, dm, List.cons.injEq] at hd
      by_cases g : l.getD i 0 = m.getD i 0
      · have p2 : ((l.getD i 0 : Int) != (m.getD i 0 : Int)) = false := by rw [g]; exact bne_self_eq_false _
        simp only [zaa, zab, zac, zad, zae, zaf, zag, zah, zai, zaj, zak, zal, zam, zan, zao, zap, zaq, zar, zas, zat, zau, zav, zaw, zax, zay, zaz, zba, zbb, zbc, zbd, zbe, zbf, zbg, zbh, zbi, zbj, zbk, zbl, zbm, zbn, zbo, zbp, zbq, Nat.reduceBEq, Bool.or_self, Bool.or_false, Bool.or_true, Bool.and_true, Bool.and_false, Bool.true_and, Bool.false_and, Option.isNone_none, Option.isNone_some, Option.isSome_some, Option.isSome_none, zbr, zbs, zbt, zbu, zbv, zbw, zbx, zby, zbz, zca, zcb, zcc, zcd, zce, zcf, zcg, zch, zci, zcj, zck, zcl, zcm, zcn, zco, zcp, zcq, zcr, zcs, zct, zcu, zcv, zcw, zcx, zcy, zcz, zda, zdb, zdc, zdd, zde, zdf, zdg, zdh, zdi, zdj, zdk, zdl, zdm, zdn, zdo, zdp, zdq, zdr, zds, Option.getD_some, Option.getD_none, zfg, zfh, zfi, zfj, zfk, zfl, zfm, zfn, Option.map_some, Option.map_none, Option.bind_some, List.map_cons, List.map_nil, List.cons_append, List.nil_append, ↓reduceIte, Nat.reduceEqDiff, Nat.reduceAdd, decide_true, decide_false, Bool.true_eq_false, Bool.false_eq_true, zdt, zdu, zdv, zdw, zdx, zdy, zdz, zea, ia22, ld31, zeb, zec, h0, h1, h2, h5, q1, q2, q3, q4, q5, Int.toNat_natCast, p2, f4]
        exact ih (i + 1) _ _ (by omega) rfl ⟨(by first | (simp only [zfn, ↓reduceIte, Nat.reduceEqDiff, h0]; done) | (simp only [zfn, ↓reduceIte, Nat.reduceEqDiff, h0]; rfl)), (by first | (simp only [zfn, ↓reduceIte, Nat.reduceEqDiff, h1]; done) | (simp only [zfn, ↓reduceIte, Nat.reduceEqDiff, h1]; rfl)), (by first | (simp only [zfn, ↓reduceIte, Nat.reduceEqDiff, h2]; done) | (simp only [zfn, ↓reduceIte, Nat.reduceEqDiff, h2]; rfl)), (by first | (simp only [zfn, ↓reduceIte, Nat.reduceEqDiff]; done) | (simp only [zfn, ↓reduceIte, Nat.reduceEqDiff]; rfl)), by omega, by rw [← hd]; simp only [g, true_and]⟩
      · have p2 : ((l.getD i 0 : Int) != (m.getD i 0 : Int)) = true := by rw [bne_iff_ne]; omega
        have hne : ¬ l = m := fun e => g (hd.mpr e).1
        rw [decide_eq_false hne]
        simp only [zaa, zab, zac, zad, zae, zaf, zag, zah, zai, zaj, zak, zal, zam, zan, zao, zap, zaq, zar, zas, zat, zau, zav, zaw, zax, zay, zaz, zba, zbb, zbc, zbd, zbe, zbf, zbg, zbh, zbi, zbj, zbk, zbl, zbm, zbn, zbo, zbp, zbq, Nat.reduceBEq, Bool.or_self, Bool.or_false, Bool.or_true, Bool.and_true, Bool.and_false, Bool.true_and, Bool.false_and, Option.isNone_none, Option.isNone_some, Option.isSome_some, Option.isSome_none, zbr, zbs, zbt, zbu, zbv, zbw, zbx, zby, zbz, zca, zcb, zcc, zcd, zce, zcf, zcg, zch, zci, zcj, zck, zcl, zcm, zcn, zco, zcp, zcq, zcr, zcs, zct, zcu, zcv, zcw, zcx, zcy, zcz, zda, zdb, zdc, zdd, zde, zdf, zdg, zdh, zdi, zdj, zdk, zdl, zdm, zdn, zdo, zdp, zdq, zdr, zds, Option.getD_some, Option.getD_none, zfg, zfh, zfi, zfj, zfk, zfl, zfm, zfn, Option.map_some, Option.map_none, Option.bind_some, List.map_cons, List.map_nil, List.cons_append, List.nil_append, ↓reduceIte, Nat.reduceEqDiff, Nat.reduceAdd, decide_true, decide_false, Bool.true_eq_false, Bool.false_eq_true, zdt, zdu, zdv, zdw, zdx, zdy, zdz, zea, ia22, ld31, zeb, zec, h0, h1, h2, h5, q1, q2, q3, q4, q5, Int.toNat_natCast, p2, f4]
        exact finish_b _ _ _ _ _ _ _ (by first | (simp only [zfn, ↓reduceIte, Nat.reduceEqDiff]; done) | (simp only [zfn, ↓reduceIte, Nat.reduceEqDiff]; rfl)) rfl
  · have p1 : ((l.length : Int) != (m.length : Int)) = true := by rw [bne_iff_ne]; omega
    rw [decide_eq_false (fun e => hlm (by rw [e]))]
    simp only [zaa, zab, zac, zad, zae, zaf, zag, zah, zai, zaj, zak, zal, zam, zan, zao, zap, zaq, zar, zas, zat, zau, zav, zaw, zax, zay, zaz, zba, zbb, zbc, zbd, zbe, zbf, zbg, zbh, zbi, zbj, zbk, zbl, zbm, zbn, zbo, zbp, zbq, Nat.reduceBEq, Bool.or_self, Bool.or_false, Bool.or_true, Bool.and_true, Bool.and_false, Bool.true_and, Bool.false_and, Option.isNone_none, Option.isNone_some, Option.isSome_some, Option.isSome_none, zbr, zbs, zbt, zbu, zbv, zbw, zbx, zby, zbz, zca, zcb, zcc, zcd, zce, zcf, zcg, zch, zci, zcj, zck, zcl, zcm, zcn, zco, zcp, zcq, zcr, zcs, zct, zcu, zcv, zcw, zcx, zcy, zcz, zda, zdb, zdc, zdd, zde, zdf, zdg, zdh, zdi, zdj, zdk, zdl, zdm, zdn, zdo, zdp, zdq, zdr, zds, Option.getD_some, Option.getD_none, zfg, zfh, zfi, zfj, zfk, zfl, zfm, zfn, Option.map_some, Option.map_none, Option.bind_some, List.map_cons, List.map_nil, List.cons_append, List.nil_append, ↓reduceIte, Nat.reduceEqDiff, Nat.reduceAdd, decide_true, decide_false, Bool.true_eq_false, Bool.false_eq_true, env0, List.getElem?_cons_zero, List.getElem?_cons_succ, zdt, zdu, zdv, zdw, zdx, zdy, zdz, zea, ia22, ld31, zeb, zec, p1]
    exact finish_b _ _ _ _ _ _ _ (by first | (simp only [zfn, ↓reduceIte, Nat.reduceEqDiff]; done) | (simp only [zfn, ↓reduceIte, Nat.reduceEqDiff]; rfl)) rfl
def sgnT : T → Bool
  | .mk _ b _ _ _ _ _ _ => b
def nT : T → Int
  | .mk _ _ _ _ _ n _ _ => n
mutual
def sameT : T → T → Bool
  | .mk k b _ l s n _ ks, u => if k = kindT u then
      (if k = 1 then decide (b = sgnT u) && decide (l = limT u) else if k = 2 ∨ k = 6 then decide (s = strT u) else if k = 8 then decide (s = strT u) && decide (n = nT u) else if k = 9 then decide (n = nT u)
       else if k = 7 then decide (n = nT u) && sameK ks (kidsT u) else if k = 4 ∨ k = 5 then sameK ks (kidsT u) else true) else false
def sameK : List T → List T → Bool
  | [], [] => true
  | x :: r, y :: q => sameT x y && sameK r q
  | [], _ :: _ => false
  | _ :: _, [] => false
end
theorem sameK_len : ∀ (a b : List T), a.length ≠ b.length → sameK a b = false
  | [], [], h => absurd rfl h
  | [], _ :: _, _ => by simp only [sameK]
  | _ :: _, [], _ => by simp only [sameK]
  | x :: r, y :: q, h => by simp only [sameK]; rw [sameK_len r q (by simpa using h), Bool.and_false]
set_option maxHeartbeats 8000000 in
theorem sameF_eq (d : Nat) (us vs : List T) (ag bg : Gk) (ha : us.length < 100000)
    (h : ∀ i j x y q r, us.drop i = x :: q → vs.drop j = y :: r → evalFn Tryz.prog cfg0 100000 d 121 [.tree (encT x), .tree (encT y)] = some (.tree (.bool (sameT x y)), [[], []])) :
    evalFn Tryz.prog cfg0 100000 (d+1) 152 [.tree (.sl (cellsK us) us.length (gr ag)), .tree (.sl (cellsK vs) vs.length (gr bg)), .tree (.fn 121 [])] = some (.tree (.bool (sameK us vs)), [[], [], []]) := by
  rw [evalFn_go _ Tryz.func152 (by unfold Tryz.f152; rfl) (by unfold Tryz.f152; decide) (Nat.le_of_ble_eq_true (by unfold Tryz.f152; rfl)) (by kernel_rfl)]
  by_cases hl : us.length = vs.length
  case neg =>
    have p1 : ((us.length : Int) != (vs.length : Int)) = true := by rw [bne_iff_ne]; omega
    rw [sameK_len us vs hl]
    simp only [zaa, zab, zac, zad, zae, zaf, zag, zah, zai, zaj, zak, zal, zam, zan, zao, zap, zaq, zar, zas, zat, zau, zav, zaw, zax, zay, zaz, zba, zbb, zbc, zbd, zbe, zbf, zbg, zbh, zbi, zbj, zbk, zbl, zbm, zbn, zbo, zbp, zbq, Nat.reduceBEq, Bool.or_self, Bool.or_false, Bool.or_true, Bool.and_true, Bool.and_false, Bool.true_and, Bool.false_and, Option.isNone_none, Option.isNone_some, Option.isSome_some, Option.isSome_none, zbr, zbs, zbt, zbu, zbv, zbw, zbx, zby, zbz, zca, zcb, zcc, zcd, zce, zcf, zcg, zch, zci, zcj, zck, zcl, zcm, zcn, zco, zcp, zcq, zcr, zcs, zct, zcu, zcv, zcw, zcx, zcy, zcz, zda, zdb, zdc, zdd, zde, zdf, zdg, zdh, zdi, zdj, zdk, zdl, zdm, zdn, zdo, zdp, zdq, zdr, zds, Option.getD_some, Option.getD_none, zfg, zfh, zfi, zfj, zfk, zfl, zfm, zfn, Option.map_some, Option.map_none, Option.bind_some, List.map_cons, List.map_nil, List.cons_append, List.nil_append, ↓reduceIte, Nat.reduceEqDiff, Nat.reduceAdd, decide_true, decide_false, Bool.true_eq_false, Bool.false_eq_true, env0, List.getElem?_cons_zero, List.getElem?_cons_succ, zdt, zdu, zdv, zdw, zdx, zdy, zdz, zea, ia22, ld31, zeb, zec, lenTk, p1]
    exact finish_b _ _ _ _ _ _ _ (by first | (simp only [zfn, ↓reduceIte, Nat.reduceEqDiff]; done) | (simp only [zfn, ↓reduceIte, Nat.reduceEqDiff]; rfl)) rfl
  have p1 : ((us.length : Int) != (vs.length : Int)) = false := by rw [hl]; exact bne_self_eq_false _
  simp only [zaa, zab, zac, zad, zae, zaf, zag, zah, zai, zaj, zak, zal, zam, zan, zao, zap, zaq, zar, zas, zat, zau, zav, zaw, zax, zay, zaz, zba, zbb, zbc, zbd, zbe, zbf, zbg, zbh, zbi, zbj, zbk, zbl, zbm, zbn, zbo, zbp, zbq, Nat.reduceBEq, Bool.or_self, Bool.or_false, Bool.or_true, Bool.and_true, Bool.and_false, Bool.true_and, Bool.false_and, Option.isNone_none, Option.isNone_some, Option.isSome_some, Option.isSome_none, zbr, zbs, zbt, zbu, zbv, zbw, zbx, zby, zbz, zca, zcb, zcc, zcd, zce, zcf, zcg, zch, zci, zcj, zck, zcl, zcm, zcn, zco, zcp, zcq, zcr, zcs, zct, zcu, zcv, zcw, zcx, zcy, zcz, zda, zdb, zdc, zdd, zde, zdf, zdg, zdh, zdi, zdj, zdk, zdl, zdm, zdn, zdo, zdp, zdq, zdr, zds, Option.getD_some, Option.getD_none, zfg, zfh, zfi, zfj, zfk, zfl, zfm, zfn, Option.map_some, Option.map_none, Option.bind_some, List.map_cons, List.map_nil, List.cons_append, List.nil_append, ↓reduceIte, Nat.reduceEqDiff, Nat.reduceAdd, decide_true, decide_false, Bool.true_eq_false, Bool.false_eq_true, env0, List.getElem?_cons_zero, List.getElem?_cons_succ, zdt, zdu, zdv, zdw, zdx, zdy, zdz, zea, ia22, ld31, zeb, zec, lenTk, p1, den_loop]
  refine loop_ends (X := Nat) (fun i env s => env 0 = .sl (cellsK us) us.length (gr ag) ∧ env 1 = .sl (cellsK vs) vs.length (gr bg) ∧ env 2 = .fn 121 [] ∧ env 15 = .sl (cellsK us) us.length (gr ag) ∧ env 16 = .int .i64 (us.length : Int) ∧ env 17 = .int .i64 (i : Int) ∧ i ≤ us.length ∧ sameK (us.drop i) (vs.drop i) = sameK us vs) (fun i => us.length - i) (fun _ => (.tree (.bool (sameK us vs)), [[], [], []])) ?_ 100000 0 _ _ (by omega) ⟨(by first | (simp only [zfn, ↓reduceIte, Nat.reduceEqDiff, env0, List.getElem?_cons_zero, List.getElem?_cons_succ]; done) | (simp only [zfn, ↓reduceIte, Nat.reduceEqDiff, env0, List.getElem?_cons_zero, List.getElem?_cons_succ]; rfl)), (by first | (simp only [zfn, ↓reduceIte, Nat.reduceEqDiff, env0, List.getElem?_cons_zero, List.getElem?_cons_succ]; done) | (simp only [zfn, ↓reduceIte, Nat.reduceEqDiff, env0, List.getElem?_cons_zero, List.getElem?_cons_succ]; rfl)), (by first | (simp only [zfn, ↓reduceIte, Nat.reduceEqDiff, env0, List.getElem?_cons_zero, List.getElem?_cons_succ]; done) | (simp only [zfn, ↓reduceIte, Nat.reduceEqDiff, env0, List.getElem?_cons_zero, List.getElem?_cons_succ]; rfl)), (by first | (simp only [zfn, ↓reduceIte, Nat.reduceEqDiff]; done) | (simp only [zfn, ↓reduceIte, Nat.reduceEqDiff]; rfl)), (by first | (simp only [zfn, ↓reduceIte, Nat.reduceEqDiff]; done) | (simp only [zfn, ↓reduceIte, Nat.reduceEqDiff]; rfl)), (by first | (simp only [zfn, ↓reduceIte, Nat.reduceEqDiff]; done) | (simp only [zfn, ↓reduceIte, Nat.reduceEqDiff]; rfl)), Nat.zero_le _, rfl⟩
  intro k i hx ih env st ⟨e0, e1, e2, e11, e12, e13, hi, hc⟩
  cases hda : us.drop i with
  | nil =>
    have hil : i = us.length := by have := congrArg List.length hda; simp only [List.length_drop, List.length_nil] at this; omega
    have q1 : ¬ ((i : Int) < (us.length : Int)) := by omega
    have hdb : vs.drop i = [] := List.drop_eq_nil_of_le (by omega)
    rw [hda, hdb] at hc
    simp only [sameK] at hc
    rw [← hc]
    simp only [zaa, zab, zac, zad, zae, zaf, zag, zah, zai, zaj, zak, zal, zam, zan, zao, zap, zaq, zar, zas, zat, zau, zav, zaw, zax, zay, zaz, zba, zbb, zbc, zbd, zbe, zbf, zbg, zbh, zbi, zbj, zbk, zbl, zbm, zbn, zbo, zbp, zbq, Nat.reduceBEq, Bool.or_self, Bool.or_false, Bool.or_true, Bool.and_true, Bool.and_false, Bool.true_and, Bool.false_and, Option.isNone_none, Option.isNone_some, Option.isSome_some, Option.isSome_none, zbr, zbs, zbt, zbu, zbv, zbw, zbx, zby, zbz, zca, zcb, zcc, zcd, zce, zcf, zcg, zch, zci, zcj, zck, zcl, zcm, zcn, zco, zcp, zcq, zcr, zcs, zct, zcu, zcv, zcw, zcx, zcy, zcz, zda, zdb, zdc, zdd, zde, zdf, zdg, zdh, zdi, zdj, zdk, zdl, zdm, zdn, zdo, zdp, zdq, zdr, zds, Option.getD_some, Option.getD_none, zfg, zfh, zfi, zfj, zfk, zfl, zfm, zfn, Option.map_some, Option.map_none, Option.bind_some, List.map_cons, List.map_nil, List.cons_append, List.nil_append, ↓reduceIte, Nat.reduceEqDiff, Nat.reduceAdd, decide_true, decide_false, Bool.true_eq_false, Bool.false_eq_true, zdt, zdu, zdv, zdw, zdx, zdy, zdz, zea, ia22, ld31, zeb, zec, e0, e1, e2, e11, e12, e13, q1]
    exact finish_b _ _ _ _ _ _ _ (by first | (simp only [zfn, ↓reduceIte, Nat.reduceEqDiff]; done) | (simp only [zfn, ↓reduceIte, Nat.reduceEqDiff]; rfl)) rfl
  | cons x q =>
    have hil : i < us.length := by have := congrArg List.length hda; simp only [List.length_drop, List.length_cons] at this; omega
    have hjl : i < vs.length := by omega
    have q1 : (i : Int) < (us.length : Int) := by omega
    have ia := fun st => ia_K st us (gr ag) i hil
    rw [hda] at ia hc
    have ld := fun st => ld_K st x q
    simp only [encT] at ld
    cases hdb : vs.drop i with
    | nil => have := congrArg List.length hdb; simp only [List.length_drop, List.length_nil] at this; omega
    | cons y r =>
      have ib := fun st => ia_K st vs (gr bg) i hjl
      rw [hdb] at ib hc
      have ldb := fun st => ld_K st y r
      simp only [encT] at ldb
      simp only [sameK] at hc
      have cc := fun D st => callA_trees (cfg := cfg0) (d := D) (s := st) (f := 121) (vs := [encT x, encT y]) rfl (h i i x y q r hda hdb)
      simp only [encT] at cc
      have f5 := i_add Tryz.prog 3 (i : Int) 1 (by omega) (by omega)
      cases g : sameT x y with
      | true =>
        rw [g, Bool.true_and] at hc
        rw [g] at cc
        simp only [zaa, zab, zac, zad, zae, zaf, zag, zah, zai, zaj, zak, zal, zam, zan, zao, zap, zaq, zar, zas, zat, zau, zav, zaw, zax, zay, zaz, zba, zbb, zbc, zbd, zbe, zbf, zbg, zbh, zbi, zbj, zbk, zbl, zbm, zbn, zbo, zbp, zbq, Nat.reduceBEq, Bool.or_self, Bool.or_false, Bool.or_true, Bool.and_true, Bool.and_false, Bool.true_and, Bool.false_and, Option.isNone_none, Option.isNone_some, Option.isSome_some, Option.isSome_none, zbr, zbs, zbt, zbu, zbv, zbw, zbx, zby, zbz, zca, zcb, zcc, zcd, zce, zcf, zcg, zch, zci, zcj, zck, zcl, zcm, zcn, zco, zcp, zcq, zcr, zcs, zct, zcu, zcv, zcw, zcx, zcy, zcz, zda, zdb, zdc, zdd, zde, zdf, zdg, zdh, zdi, zdj, zdk, zdl, zdm, zdn, zdo, zdp, zdq, zdr, zds, Option.getD_some, Option.getD_none, zfg, zfh, zfi, zfj, zfk, zfl, zfm, zfn, Option.map_some, Option.map_none, Option.bind_some, List.map_cons, List.map_nil, List.cons_append, List.nil_append, ↓reduceIte, Nat.reduceEqDiff, Nat.reduceAdd, decide_true, decide_false, Bool.true_eq_false, Bool.false_eq_true, zdt, zdu, zdv, zdw, zdx, zdy, zdz, zea, ia22, ld31, zeb, zec, zed, zee, zef, zeg, zeh, zei, zej, zek, zel, zem, zen, zeo, zep, fa_0, fa_1, zeq, bd_0, bd_2, zer, fd_1, zes, Nat.zero_add, zez, zfa, zfb, zfc, zfd, zfe, zff, e0, e1, e2, e11, e12, e13, q1, lenTk, ia, ib, ld, ldb, zeroT, st_Tt, stT_6, ldT_u, cc, unA_not', Bool.not_true, f5]
        exact ih (i + 1) _ _ (by omega) rfl ⟨(by first | (simp only [zfn, ↓reduceIte, Nat.reduceEqDiff, e0]; done) | (simp only [zfn, ↓reduceIte, Nat.reduceEqDiff, e0]; rfl)), (by first | (simp only [zfn, ↓reduceIte, Nat.reduceEqDiff, e1]; done) | (simp only [zfn, ↓reduceIte, Nat.reduceEqDiff, e1]; rfl)), (by first | (simp only [zfn, ↓reduceIte, Nat.reduceEqDiff, e2]; done) | (simp only [zfn, ↓reduceIte, Nat.reduceEqDiff, e2]; rfl)), (by first | (simp only [zfn, ↓reduceIte, Nat.reduceEqDiff, e11]; done) | (simp only [zfn, ↓reduceIte, Nat.reduceEqDiff, e11]; rfl)), (by first | (simp only [zfn, ↓reduceIte, Nat.reduceEqDiff, e12]; done) | (simp only [zfn, ↓reduceIte, Nat.reduceEqDiff, e12]; rfl)), (by first | (simp only [zfn, ↓reduceIte, Nat.reduceEqDiff]; done) | (simp only [zfn, ↓reduceIte, Nat.reduceEqDiff]; rfl)), by omega, by rw [drop_next hda, drop_next hdb]; exact hc⟩
      | false =>
        rw [g, Bool.false_and] at hc
        rw [g] at cc
        rw [← hc]
        simp only [zaa, zab, zac, zad, zae, zaf, zag, zah, zai, zaj, zak, zal, zam, zan, zao, zap, zaq, zar, zas, zat, zau, zav, zaw, zax, zay, zaz, zba, zbb, zbc, zbd, zbe, zbf, zbg, zbh, zbi, zbj, zbk, zbl, zbm, zbn, zbo, zbp, zbq, Nat.reduceBEq, Bool.or_self, Bool.or_false, Bool.or_true, Bool.and_true, Bool.and_false, Bool.true_and, Bool.false_and, Option.isNone_none, Option.isNone_some, Option.isSome_some, Option.isSome_none, zbr, zbs, zbt, zbu, zbv, zbw, zbx, zby, zbz, zca, zcb, zcc, zcd, zce, zcf, zcg, zch, zci, zcj, zck, zcl, zcm, zcn, zco, zcp, zcq, zcr, zcs, zct, zcu, zcv, zcw, zcx, zcy, zcz, zda, zdb, zdc, zdd, zde, zdf, zdg, zdh, zdi, zdj, zdk, zdl, zdm, zdn, zdo, zdp, zdq, zdr, zds, Option.getD_some, Option.getD_none, zfg, zfh, zfi, zfj, zfk, zfl, zfm, zfn, Option.map_some, Option.map_none, Option.bind_some, List.map_cons, List.map_nil, List.cons_append, List.nil_append, ↓reduceIte, Nat.reduceEqDiff, Nat.reduceAdd, decide_true, decide_false, Bool.true_eq_false, Bool.false_eq_true, zdt, zdu, zdv, zdw, zdx, zdy, zdz, zea, ia22, ld31, zeb, zec, zed, zee, zef, zeg, zeh, zei, zej, zek, zel, zem, zen, zeo, zep, fa_0, fa_1, zeq, bd_0, bd_2, zer, fd_1, zes, Nat.zero_add, zez, zfa, zfb, zfc, zfd, zfe, zff, e0, e1, e2, e11, e12, e13, q1, lenTk, ia, ib, ld, ldb, zeroT, st_Tt, stT_6, ldT_u, cc, unA_not', Bool.not_false, f5]
        exact finish_b _ _ _ _ _ _ _ (by first | (simp only [zfn, ↓reduceIte, Nat.reduceEqDiff]; done) | (simp only [zfn, ↓reduceIte, Nat.reduceEqDiff]; rfl)) rfl
theorem isTree_K (g : Gk) (ks : List T) : isTree (.sl (cellsK ks) ks.length (gr g)) = true := by cases g <;> rfl
theorem all_eq (d : Nat) (us vs : List T) (ag bg : Gk) (ha : us.length < 100000)
    (h : ∀ i j x y q r, us.drop i = x :: q → vs.drop j = y :: r → evalFn Tryz.prog cfg0 100000 d 121 [.tree (encT x), .tree (encT y)] = some (.tree (.bool (sameT x y)), [[], []])) :
    evalFn Tryz.prog cfg0 100000 (d+2) 141 [.tree (.sl (cellsK us) us.length (gr ag)), .tree (.sl (cellsK vs) vs.length (gr bg))] = some (.tree (.bool (sameK us vs)), [[], []]) := by
  rw [evalFn_go _ Tryz.func141 (by unfold Tryz.f141; rfl) (by unfold Tryz.f141; decide) (Nat.le_of_ble_eq_true (by unfold Tryz.f141; rfl)) (by kernel_rfl)]
  have hf := sameF_eq d us vs ag bg ha h
  have c1 := fun D st => callA_trees (cfg := cfg0) (d := D) (s := st) (f := 152) (vs := [.sl (cellsK us) us.length (gr ag), .sl (cellsK vs) vs.length (gr bg), .fn 121 []]) (by simp only [List.all_cons, isTree_K, Bool.true_and]; rfl) hf
  simp only [zaa, zab, zac, zad, zae, zaf, zag, zah, zai, zaj, zak, zal, zam, zan, zao, zap, zaq, zar, zas, zat, zau, zav, zaw, zax, zay, zaz, zba, zbb, zbc, zbd, zbe, zbf, zbg, zbh, zbi, zbj, zbk, zbl, zbm, zbn, zbo, zbp, zbq, Nat.reduceBEq, Bool.or_self, Bool.or_false, Bool.or_true, Bool.and_true, Bool.and_false, Bool.true_and, Bool.false_and, Option.isNone_none, Option.isNone_some, Option.isSome_some, Option.isSome_none, zbr, zbs, zbt, zbu, zbv, zbw, zbx, zby, zbz, zca, zcb, zcc, zcd, zce, zcf, zcg, zch, zci, zcj, zck, zcl, zcm, zcn, zco, zcp, zcq, zcr, zcs, zct, zcu, zcv, zcw, zcx, zcy, zcz, zda, zdb, zdc, zdd, zde, zdf, zdg, zdh, zdi, zdj, zdk, zdl, zdm, zdn, zdo, zdp, zdq, zdr, zds, Option.getD_some, Option.getD_none, zfg, zfh, zfi, zfj, zfk, zfl, zfm, zfn, Option.map_some, Option.map_none, Option.bind_some, List.map_cons, List.map_nil, List.cons_append, List.nil_append, ↓reduceIte, Nat.reduceEqDiff, Nat.reduceAdd, decide_true, decide_false, Bool.true_eq_false, Bool.false_eq_true, env0, List.getElem?_cons_zero, List.getElem?_cons_succ, zdt, zdu, zdv, zdw, zdx, zdy, zdz, zea, ia22, ld31, zeb, zec, c1]
  exact finish_b _ _ _ _ _ _ _ (by first | (simp only [zfn, ↓reduceIte, Nat.reduceEqDiff]; done) | (simp only [zfn, ↓reduceIte, Nat.reduceEqDiff]; rfl)) rfl
theorem ldB_1 (t k : Nat) (a b c d e f : AV) : ldE Tryz.prog 4 ⟨t, .buf [a, b, c, d, e, f]⟩ k 1 = if t = k then some b else none := by
  rw [ldE, cellsE_buf]
  by_cases h : t = k
  · simp [h, partA, sh4]
  · simp [h]
theorem ldB_2 (t k : Nat) (a b c d e f : AV) : ldE Tryz.prog 25 ⟨t, .buf [a, b, c, d, e, f]⟩ k 2 = if t = k then some c else none := by
  rw [ldE, cellsE_buf]
  by_cases h : t = k
  · simp [h, partA, sh22]
  · simp [h]
/-- So many limbs at most, everywhere; so many kids. -/
theorem strEq (a b : List UInt8) : (a == b) = decide (a = b) := by rw [Bool.eq_iff_iff, beq_iff_eq, decide_eq_true_eq]
theorem intEq (x y : Int) : (x == y) = decide (x = y) := by rw [Bool.eq_iff_iff, beq_iff_eq, decide_eq_true_eq]
mutual
def fewT (m : Nat) : T → Prop
  | .mk _ _ _ l _ _ _ ks => l.length < m ∧ ks.length < m ∧ fewK m ks
def fewK (m : Nat) : List T → Prop
  | [] => True
  | t :: r => fewT m t ∧ fewK m r
end
theorem fewK_at (m : Nat) : ∀ (ks : List T) (i : Nat) (t : T) (r : List T), ks.drop i = t :: r → fewK m ks → fewT m t
  | [], i, t, r, h, _ => by simp at h
  | a :: q, 0, t, r, h, hw => by simp only [List.drop_zero, List.cons.injEq] at h; obtain ⟨rfl, rfl⟩ := h; simp only [fewK] at hw; exact hw.1
  | a :: q, i + 1, t, r, h, hw => by simp only [fewK] at hw; exact fewK_at m q i t r (by simpa using h) hw.2
set_option maxHeartbeats 32000000 in
theorem tsame_eq : ∀ (d D : Nat) (a0 b0 : T), htT a0 ≤ d → 3 * d ≤ D → fewT 100000 a0 →
    evalFn Tryz.prog cfg0 100000 D 121 [.tree (encT a0), .tree (encT b0)] = some (.tree (.bool (sameT a0 b0)), [[], []])
  | 0, _, a0, b0, hd, _, hn => by obtain ⟨k, b, lg, l, s, m, kg, ks⟩ := a0; simp only [htT] at hd; omega
  | d + 1, D, a0, b0, hd, hD, hn => by
    obtain ⟨m, rfl⟩ : ∃ m, D = m + 3 := ⟨D - 3, by omega⟩
    have IH := fun D h a b h1 h2 => tsame_eq d D a b h1 h h2
    rw [evalFn_go _ Tryz.func121 (by unfold Tryz.f121; rfl) (by unfold Tryz.f121; decide) (Nat.le_of_ble_eq_true (by unfold Tryz.f121; rfl)) (by kernel_rfl)]
    obtain ⟨k, n1, lg, l, s, i1, kg, ks⟩ := a0
    obtain ⟨k', n2, lg', l', s', i2, kg', ks'⟩ := b0
    have hf : l.length < 100000 ∧ ks.length < 100000 ∧ fewK 100000 ks := by simp only [fewT] at hn; exact hn
    have hhk : htK ks ≤ d := by simp only [htT] at hd; omega
    have c1 := fun D st => callA_trees (cfg := cfg0) (d := D) (s := st) (f := 140) (vs := [encL lg l, encL lg' l']) (by cases lg <;> cases lg' <;> rfl) (eqLG_eq 100000 (m+1) lg lg' l l' hf.1 (by omega))
    have eb := bool_eql 4 tk4
    have ha := all_eq m ks ks' kg kg' hf.2.1 (fun i j x y q r h1 h2 => IH m (by omega) x y (by have := kids_ht ks i x q h1; omega) (fewK_at _ ks i x q h1 hf.2.2))
    have c2 := fun D st => callA_trees (cfg := cfg0) (d := D) (s := st) (f := 141) (vs := [.sl (cellsK ks) ks.length (gr kg), .sl (cellsK ks') ks'.length (gr kg')]) (by simp only [List.all_cons, isTree_K, Bool.true_and]; rfl) ha
    by_cases hk : k = k'
    case neg =>
      have p1 : (k != k') = true := by rw [bne_iff_ne]; exact hk
      have hr : sameT (.mk k n1 lg l s i1 kg ks) (.mk k' n2 lg' l' s' i2 kg' ks') = false := by first | (simp [sameT, kindT, sgnT, limT, strT, nT, kidsT, hk]; done) | (simp [sameT, kindT, sgnT, limT, strT, nT, kidsT, hk]; rfl)
      rw [hr]
      simp only [zaa, zab, zac, zad, zae, zaf, zag, zah, zai, zaj, zak, zal, zam, zan, zao, zap, zaq, zar, zas, zat, zau, zav, zaw, zax, zay, zaz, zba, zbb, zbc, zbd, zbe, zbf, zbg, zbh, zbi, zbj, zbk, zbl, zbm, zbn, zbo, zbp, zbq, Nat.reduceBEq, Bool.or_self, Bool.or_false, Bool.or_true, Bool.and_true, Bool.and_false, Bool.true_and, Bool.false_and, Option.isNone_none, Option.isNone_some, Option.isSome_some, Option.isSome_none, zbr, zbs, zbt, zbu, zbv, zbw, zbx, zby, zbz, zca, zcb, zcc, zcd, zce, zcf, zcg, zch, zci, zcj, zck, zcl, zcm, zcn, zco, zcp, zcq, zcr, zcs, zct, zcu, zcv, zcw, zcx, zcy, zcz, zda, zdb, zdc, zdd, zde, zdf, zdg, zdh, zdi, zdj, zdk, zdl, zdm, zdn, zdo, zdp, zdq, zdr, zds, Option.getD_some, Option.getD_none, zfg, zfh, zfi, zfj, zfk, zfl, zfm, zfn, Option.map_some, Option.map_none, Option.bind_some, List.map_cons, List.map_nil, List.cons_append, List.nil_append, ↓reduceIte, Nat.reduceEqDiff, Nat.reduceAdd, decide_true, decide_false, Bool.true_eq_false, Bool.false_eq_true, env0, List.getElem?_cons_zero, List.getElem?_cons_succ, zdt, zdu, zdv, zdw, zdx, zdy, zdz, zea, ia22, ld31, zeb, zec, zed, zee, zef, zeg, zeh, zei, zej, zek, zel, zem, zen, zeo, zep, fa_0, fa_1, zeq, bd_0, bd_2, zer, fd_1, zes, Nat.zero_add, encT, cellsT, faT_0, ldT_0, p1]
      exact finish_b _ _ _ _ _ _ _ (by first | (simp only [zfn, ↓reduceIte, Nat.reduceEqDiff]; done) | (simp only [zfn, ↓reduceIte, Nat.reduceEqDiff]; rfl)) rfl
    subst hk
    have iq : (i1 == i2) = decide (i1 = i2) := intEq _ _
    have p1 : (k != k) = false := bne_self_eq_false _
    have iq : (i1 == i2) = decide (i1 = i2) := intEq _ _
    by_cases h1 : k = 1
    · subst h1
      have hr : sameT (.mk 1 n1 lg l s i1 kg ks) (.mk 1 n2 lg' l' s' i2 kg' ks') = (decide (n1 = n2) && decide (l = l')) := by first | (simp [sameT, kindT, sgnT, limT, strT, nT, kidsT]; done) | (simp [sameT, kindT, sgnT, limT, strT, nT, kidsT]; rfl)
      by_cases g : n1 = n2
      · have g' : (n1 == n2) = true := beq_iff_eq.mpr g
        rw [hr, decide_eq_true g, Bool.true_and]
        simp only [zaa, zab, zac, zad, zae, zaf, zag, zah, zai, zaj, zak, zal, zam, zan, zao, zap, zaq, zar, zas, zat, zau, zav, zaw, zax, zay, zaz, zba, zbb, zbc, zbd, zbe, zbf, zbg, zbh, zbi, zbj, zbk, zbl, zbm, zbn, zbo, zbp, zbq, Nat.reduceBEq, Bool.or_self, Bool.or_false, Bool.or_true, Bool.and_true, Bool.and_false, Bool.true_and, Bool.false_and, Option.isNone_none, Option.isNone_some, Option.isSome_some, Option.isSome_none, zbr, zbs, zbt, zbu, zbv, zbw, zbx, zby, zbz, zca, zcb, zcc, zcd, zce, zcf, zcg, zch, zci, zcj, zck, zcl, zcm, zcn, zco, zcp, zcq, zcr, zcs, zct, zcu, zcv, zcw, zcx, zcy, zcz, zda, zdb, zdc, zdd, zde, zdf, zdg, zdh, zdi, zdj, zdk, zdl, zdm, zdn, zdo, zdp, zdq, zdr, zds, Option.getD_some, Option.getD_none, zfg, zfh, zfi, zfj, zfk, zfl, zfm, zfn, Option.map_some, Option.map_none, Option.bind_some, List.map_cons, List.map_nil, List.cons_append, List.nil_append, ↓reduceIte, Nat.reduceEqDiff, Nat.reduceAdd, decide_true, decide_false, Bool.true_eq_false, Bool.false_eq_true, env0, List.getElem?_cons_zero, List.getElem?_cons_succ, zdt, zdu, zdv, zdw, zdx, zdy, zdz, zea, ia22, ld31, zeb, zec, zed, zee, zef, zeg, zeh, zei, zej, zek, zel, zem, zen, zeo, zep, fa_0, fa_1, zeq, bd_0, bd_2, zer, fd_1, zes, Nat.zero_add, encT, cellsT, faT_0, faT_1, faT_2, faT_3, faT_4, faN_0, faN_1, ldT_0, ldT_2, ldT_3, ldT_4, ldB_1, ldB_2, Nat.reduceAdd, p1, i_eqlV, Int.reduceBEq, eb, g', c1]
        exact finish_b _ _ _ _ _ _ _ (by first | (simp only [zfn, ↓reduceIte, Nat.reduceEqDiff]; done) | (simp only [zfn, ↓reduceIte, Nat.reduceEqDiff]; rfl)) rfl
      · have g' : (n1 == n2) = false := beq_eq_false_iff_ne.mpr g
        rw [hr, decide_eq_false g, Bool.false_and]
        simp only [zaa, zab, zac, zad, zae, zaf, zag, zah, zai, zaj, zak, zal, zam, zan, zao, zap, zaq, zar, zas, zat, zau, zav, zaw, zax, zay, zaz, zba, zbb, zbc, zbd, zbe, zbf, zbg, zbh, zbi, zbj, zbk, zbl, zbm, zbn, zbo, zbp, zbq, Nat.reduceBEq, Bool.or_self, Bool.or_false, Bool.or_true, Bool.and_true, Bool.and_false, Bool.true_and, Bool.false_and, Option.isNone_none, Option.isNone_some, Option.isSome_some, Option.isSome_none, zbr, zbs, zbt, zbu, zbv, zbw, zbx, zby, zbz, zca, zcb, zcc, zcd, zce, zcf, zcg, zch, zci, zcj, zck, zcl, zcm, zcn, zco, zcp, zcq, zcr, zcs, zct, zcu, zcv, zcw, zcx, zcy, zcz, zda, zdb, zdc, zdd, zde, zdf, zdg, zdh, zdi, zdj, zdk, zdl, zdm, zdn, zdo, zdp, zdq, zdr, zds, Option.getD_some, Option.getD_none, zfg, zfh, zfi, zfj, zfk, zfl, zfm, zfn, Option.map_some, Option.map_none, Option.bind_some, List.map_cons, List.map_nil, List.cons_append, List.nil_append, ↓reduceIte, Nat.reduceEqDiff, Nat.reduceAdd, decide_true, decide_false, Bool.true_eq_false, Bool.false_eq_true, env0, List.getElem?_cons_zero, List.getElem?_cons_succ, zdt, zdu, zdv, zdw, zdx, zdy, zdz, zea, ia22, ld31, zeb, zec, zed, zee, zef, zeg, zeh, zei, zej, zek, zel, zem, zen, zeo, zep, fa_0, fa_1, zeq, bd_0, bd_2, zer, fd_1, zes, Nat.zero_add, encT, cellsT, faT_0, faT_1, faT_2, faT_3, faT_4, faN_0, faN_1, ldT_0, ldT_2, ldT_3, ldT_4, ldB_1, ldB_2, Nat.reduceAdd, p1, i_eqlV, Int.reduceBEq, eb, g', c1]
        exact finish_b _ _ _ _ _ _ _ (by first | (simp only [zfn, ↓reduceIte, Nat.reduceEqDiff]; done) | (simp only [zfn, ↓reduceIte, Nat.reduceEqDiff]; rfl)) rfl
    have b1 : (k == 1) = false := beq_eq_false_iff_ne.mpr h1
    by_cases h6 : k = 6
    · subst h6
      have hr : sameT (.mk 6 n1 lg l s i1 kg ks) (.mk 6 n2 lg' l' s' i2 kg' ks') = decide (s = s') := by first | (simp [sameT, kindT, sgnT, limT, strT, nT, kidsT]; done) | (simp [sameT, kindT, sgnT, limT, strT, nT, kidsT]; rfl)
      rw [hr]
      simp only [zaa, zab, zac, zad, zae, zaf, zag, zah, zai, zaj, zak, zal, zam, zan, zao, zap, zaq, zar, zas, zat, zau, zav, zaw, zax, zay, zaz, zba, zbb, zbc, zbd, zbe, zbf, zbg, zbh, zbi, zbj, zbk, zbl, zbm, zbn, zbo, zbp, zbq, Nat.reduceBEq, Bool.or_self, Bool.or_false, Bool.or_true, Bool.and_true, Bool.and_false, Bool.true_and, Bool.false_and, Option.isNone_none, Option.isNone_some, Option.isSome_some, Option.isSome_none, zbr, zbs, zbt, zbu, zbv, zbw, zbx, zby, zbz, zca, zcb, zcc, zcd, zce, zcf, zcg, zch, zci, zcj, zck, zcl, zcm, zcn, zco, zcp, zcq, zcr, zcs, zct, zcu, zcv, zcw, zcx, zcy, zcz, zda, zdb, zdc, zdd, zde, zdf, zdg, zdh, zdi, zdj, zdk, zdl, zdm, zdn, zdo, zdp, zdq, zdr, zds, Option.getD_some, Option.getD_none, zfg, zfh, zfi, zfj, zfk, zfl, zfm, zfn, Option.map_some, Option.map_none, Option.bind_some, List.map_cons, List.map_nil, List.cons_append, List.nil_append, ↓reduceIte, Nat.reduceEqDiff, Nat.reduceAdd, decide_true, decide_false, Bool.true_eq_false, Bool.false_eq_true, env0, List.getElem?_cons_zero, List.getElem?_cons_succ, zdt, zdu, zdv, zdw, zdx, zdy, zdz, zea, ia22, ld31, zeb, zec, zed, zee, zef, zeg, zeh, zei, zej, zek, zel, zem, zen, zeo, zep, fa_0, fa_1, zeq, bd_0, bd_2, zer, fd_1, zes, Nat.zero_add, encT, cellsT, faT_0, faT_1, faT_2, faT_3, faT_4, faN_0, faN_1, ldT_0, ldT_2, ldT_3, ldT_4, ldB_1, ldB_2, Nat.reduceAdd, p1, i_eqlV, Int.reduceBEq, s_eqlS, strEq]
      exact finish_b _ _ _ _ _ _ _ (by first | (simp only [zfn, ↓reduceIte, Nat.reduceEqDiff]; done) | (simp only [zfn, ↓reduceIte, Nat.reduceEqDiff]; rfl)) rfl
    have b6 : (k == 6) = false := beq_eq_false_iff_ne.mpr h6
    by_cases h2 : k = 2
    · subst h2
      have hr : sameT (.mk 2 n1 lg l s i1 kg ks) (.mk 2 n2 lg' l' s' i2 kg' ks') = decide (s = s') := by first | (simp [sameT, kindT, sgnT, limT, strT, nT, kidsT]; done) | (simp [sameT, kindT, sgnT, limT, strT, nT, kidsT]; rfl)
      rw [hr]
      simp only [zaa, zab, zac, zad, zae, zaf, zag, zah, zai, zaj, zak, zal, zam, zan, zao, zap, zaq, zar, zas, zat, zau, zav, zaw, zax, zay, zaz, zba, zbb, zbc, zbd, zbe, zbf, zbg, zbh, zbi, zbj, zbk, zbl, zbm, zbn, zbo, zbp, zbq, Nat.reduceBEq, Bool.or_self, Bool.or_false, Bool.or_true, Bool.and_true, Bool.and_false, Bool.true_and, Bool.false_and, Option.isNone_none, Option.isNone_some, Option.isSome_some, Option.isSome_none, zbr, zbs, zbt, zbu, zbv, zbw, zbx, zby, zbz, zca, zcb, zcc, zcd, zce, zcf, zcg, zch, zci, zcj, zck, zcl, zcm, zcn, zco, zcp, zcq, zcr, zcs, zct, zcu, zcv, zcw, zcx, zcy, zcz, zda, zdb, zdc, zdd, zde, zdf, zdg, zdh, zdi, zdj, zdk, zdl, zdm, zdn, zdo, zdp, zdq, zdr, zds, Option.getD_some, Option.getD_none, zfg, zfh, zfi, zfj, zfk, zfl, zfm, zfn, Option.map_some, Option.map_none, Option.bind_some, List.map_cons, List.map_nil, List.cons_append, List.nil_append, ↓reduceIte, Nat.reduceEqDiff, Nat.reduceAdd, decide_true, decide_false, Bool.true_eq_false, Bool.false_eq_true, env0, List.getElem?_cons_zero, List.getElem?_cons_succ, zdt, zdu, zdv, zdw, zdx, zdy, zdz, zea, ia22, ld31, zeb, zec, zed, zee, zef, zeg, zeh, zei, zej, zek, zel, zem, zen, zeo, zep, fa_0, fa_1, zeq, bd_0, bd_2, zer, fd_1, zes, Nat.zero_add, encT, cellsT, faT_0, faT_1, faT_2, faT_3, faT_4, faN_0, faN_1, ldT_0, ldT_2, ldT_3, ldT_4, ldB_1, ldB_2, Nat.reduceAdd, p1, i_eqlV, Int.reduceBEq, s_eqlS, strEq]
      exact finish_b _ _ _ _ _ _ _ (by first | (simp only [zfn, ↓reduceIte, Nat.reduceEqDiff]; done) | (simp only [zfn, ↓reduceIte, Nat.reduceEqDiff]; rfl)) rfl
    have b2 : (k == 2) = false := beq_eq_false_iff_ne.mpr h2
    by_cases h8 : k = 8
    · subst h8
      have hr : sameT (.mk 8 n1 lg l s i1 kg ks) (.mk 8 n2 lg' l' s' i2 kg' ks') = (decide (s = s') && decide (i1 = i2)) := by first | (simp [sameT, kindT, sgnT, limT, strT, nT, kidsT]; done) | (simp [sameT, kindT, sgnT, limT, strT, nT, kidsT]; rfl)
      by_cases g : s = s'
      · have g' : (s == s') = true := beq_iff_eq.mpr g
        rw [hr, decide_eq_true g, Bool.true_and]
        simp only [zaa, zab, zac, zad, zae, zaf, zag, zah, zai, zaj, zak, zal, zam, zan, zao, zap, zaq, zar, zas, zat, zau, zav, zaw, zax, zay, zaz, zba, zbb, zbc, zbd, zbe, zbf, zbg, zbh, zbi, zbj, zbk, zbl, zbm, zbn, zbo, zbp, zbq, Nat.reduceBEq, Bool.or_self, Bool.or_false, Bool.or_true, Bool.and_true, Bool.and_false, Bool.true_and, Bool.false_and, Option.isNone_none, Option.isNone_some, Option.isSome_some, Option.isSome_none, zbr, zbs, zbt, zbu, zbv, zbw, zbx, zby, zbz, zca, zcb, zcc, zcd, zce, zcf, zcg, zch, zci, zcj, zck, zcl, zcm, zcn, zco, zcp, zcq, zcr, zcs, zct, zcu, zcv, zcw, zcx, zcy, zcz, zda, zdb, zdc, zdd, zde, zdf, zdg, zdh, zdi, zdj, zdk, zdl, zdm, zdn, zdo, zdp, zdq, zdr, zds, Option.getD_some, Option.getD_none, zfg, zfh, zfi, zfj, zfk, zfl, zfm, zfn, Option.map_some, Option.map_none, Option.bind_some, List.map_cons, List.map_nil, List.cons_append, List.nil_append, ↓reduceIte, Nat.reduceEqDiff, Nat.reduceAdd, decide_true, decide_false, Bool.true_eq_false, Bool.false_eq_true, env0, List.getElem?_cons_zero, List.getElem?_cons_succ, zdt, zdu, zdv, zdw, zdx, zdy, zdz, zea, ia22, ld31, zeb, zec, zed, zee, zef, zeg, zeh, zei, zej, zek, zel, zem, zen, zeo, zep, fa_0, fa_1, zeq, bd_0, bd_2, zer, fd_1, zes, Nat.zero_add, encT, cellsT, faT_0, faT_1, faT_2, faT_3, faT_4, faN_0, faN_1, ldT_0, ldT_2, ldT_3, ldT_4, ldB_1, ldB_2, Nat.reduceAdd, p1, i_eqlV, Int.reduceBEq, eb, g', s_eqlS, iq]
        exact finish_b _ _ _ _ _ _ _ (by first | (simp only [zfn, ↓reduceIte, Nat.reduceEqDiff]; done) | (simp only [zfn, ↓reduceIte, Nat.reduceEqDiff]; rfl)) rfl
      · have g' : (s == s') = false := beq_eq_false_iff_ne.mpr g
        rw [hr, decide_eq_false g, Bool.false_and]
        simp only [zaa, zab, zac, zad, zae, zaf, zag, zah, zai, zaj, zak, zal, zam, zan, zao, zap, zaq, zar, zas, zat, zau, zav, zaw, zax, zay, zaz, zba, zbb, zbc, zbd, zbe, zbf, zbg, zbh, zbi, zbj, zbk, zbl, zbm, zbn, zbo, zbp, zbq, Nat.reduceBEq, Bool.or_self, Bool.or_false, Bool.or_true, Bool.and_true, Bool.and_false, Bool.true_and, Bool.false_and, Option.isNone_none, Option.isNone_some, Option.isSome_some, Option.isSome_none, zbr, zbs, zbt, zbu, zbv, zbw, zbx, zby, zbz, zca, zcb, zcc, zcd, zce, zcf, zcg, zch, zci, zcj, zck, zcl, zcm, zcn, zco, zcp, zcq, zcr, zcs, zct, zcu, zcv, zcw, zcx, zcy, zcz, zda, zdb, zdc, zdd, zde, zdf, zdg, zdh, zdi, zdj, zdk, zdl, zdm, zdn, zdo, zdp, zdq, zdr, zds, Option.getD_some, Option.getD_none, zfg, zfh, zfi, zfj, zfk, zfl, zfm, zfn, Option.map_some, Option.map_none, Option.bind_some, List.map_cons, List.map_nil, List.cons_append, List.nil_append, ↓reduceIte, Nat.reduceEqDiff, Nat.reduceAdd, decide_true, decide_false, Bool.true_eq_false, Bool.false_eq_true, env0, List.getElem?_cons_zero, List.getElem?_cons_succ, zdt, zdu, zdv, zdw, zdx, zdy, zdz, zea, ia22, ld31, zeb, zec, zed, zee, zef, zeg, zeh, zei, zej, zek, zel, zem, zen, zeo, zep, fa_0, fa_1, zeq, bd_0, bd_2, zer, fd_1, zes, Nat.zero_add, encT, cellsT, faT_0, faT_1, faT_2, faT_3, faT_4, faN_0, faN_1, ldT_0, ldT_2, ldT_3, ldT_4, ldB_1, ldB_2, Nat.reduceAdd, p1, i_eqlV, Int.reduceBEq, eb, g', s_eqlS, iq]
        exact finish_b _ _ _ _ _ _ _ (by first | (simp only [zfn, ↓reduceIte, Nat.reduceEqDiff]; done) | (simp only [zfn, ↓reduceIte, Nat.reduceEqDiff]; rfl)) rfl
    have b8 : (k == 8) = false := beq_eq_false_iff_ne.mpr h8
    by_cases h9 : k = 9
    · subst h9
      have hr : sameT (.mk 9 n1 lg l s i1 kg ks) (.mk 9 n2 lg' l' s' i2 kg' ks') = decide (i1 = i2) := by first | (simp [sameT, kindT, sgnT, limT, strT, nT, kidsT]; done) | (simp [sameT, kindT, sgnT, limT, strT, nT, kidsT]; rfl)
      rw [hr]
      simp only [zaa, zab, zac, zad, zae, zaf, zag, zah, zai, zaj, zak, zal, zam, zan, zao, zap, zaq, zar, zas, zat, zau, zav, zaw, zax, zay, zaz, zba, zbb, zbc, zbd, zbe, zbf, zbg, zbh, zbi, zbj, zbk, zbl, zbm, zbn, zbo, zbp, zbq, Nat.reduceBEq, Bool.or_self, Bool.or_false, Bool.or_true, Bool.and_true, Bool.and_false, Bool.true_and, Bool.false_and, Option.isNone_none, Option.isNone_some, Option.isSome_some, Option.isSome_none, zbr, zbs, zbt, zbu, zbv, zbw, zbx, zby, zbz, zca, zcb, zcc, zcd, zce, zcf, zcg, zch, zci, zcj, zck, zcl, zcm, zcn, zco, zcp, zcq, zcr, zcs, zct, zcu, zcv, zcw, zcx, zcy, zcz, zda, zdb, zdc, zdd, zde, zdf, zdg, zdh, zdi, zdj, zdk, zdl, zdm, zdn, zdo, zdp, zdq, zdr, zds, Option.getD_some, Option.getD_none, zfg, zfh, zfi, zfj, zfk, zfl, zfm, zfn, Option.map_some, Option.map_none, Option.bind_some, List.map_cons, List.map_nil, List.cons_append, List.nil_append, ↓reduceIte, Nat.reduceEqDiff, Nat.reduceAdd, decide_true, decide_false, Bool.true_eq_false, Bool.false_eq_true, env0, List.getElem?_cons_zero, List.getElem?_cons_succ, zdt, zdu, zdv, zdw, zdx, zdy, zdz, zea, ia22, ld31, zeb, zec, zed, zee, zef, zeg, zeh, zei, zej, zek, zel, zem, zen, zeo, zep, fa_0, fa_1, zeq, bd_0, bd_2, zer, fd_1, zes, Nat.zero_add, encT, cellsT, faT_0, faT_1, faT_2, faT_3, faT_4, faN_0, faN_1, ldT_0, ldT_2, ldT_3, ldT_4, ldB_1, ldB_2, Nat.reduceAdd, p1, i_eqlV, Int.reduceBEq, iq]
      exact finish_b _ _ _ _ _ _ _ (by first | (simp only [zfn, ↓reduceIte, Nat.reduceEqDiff]; done) | (simp only [zfn, ↓reduceIte, Nat.reduceEqDiff]; rfl)) rfl
    have b9 : (k == 9) = false := beq_eq_false_iff_ne.mpr h9
    by_cases h7 : k = 7
    · subst h7
      have hr : sameT (.mk 7 n1 lg l s i1 kg ks) (.mk 7 n2 lg' l' s' i2 kg' ks') = (decide (i1 = i2) && sameK ks ks') := by first | (simp [sameT, kindT, sgnT, limT, strT, nT, kidsT]; done) | (simp [sameT, kindT, sgnT, limT, strT, nT, kidsT]; rfl)
      by_cases g : i1 = i2
      · have g' : (i1 == i2) = true := beq_iff_eq.mpr g
        rw [hr, decide_eq_true g, Bool.true_and]
        simp only [zaa, zab, zac, zad, zae, zaf, zag, zah, zai, zaj, zak, zal, zam, zan, zao, zap, zaq, zar, zas, zat, zau, zav, zaw, zax, zay, zaz, zba, zbb, zbc, zbd, zbe, zbf, zbg, zbh, zbi, zbj, zbk, zbl, zbm, zbn, zbo, zbp, zbq, Nat.reduceBEq, Bool.or_self, Bool.or_false, Bool.or_true, Bool.and_true, Bool.and_false, Bool.true_and, Bool.false_and, Option.isNone_none, Option.isNone_some, Option.isSome_some, Option.isSome_none, zbr, zbs, zbt, zbu, zbv, zbw, zbx, zby, zbz, zca, zcb, zcc, zcd, zce, zcf, zcg, zch, zci, zcj, zck, zcl, zcm, zcn, zco, zcp, zcq, zcr, zcs, zct, zcu, zcv, zcw, zcx, zcy, zcz, zda, zdb, zdc, zdd, zde, zdf, zdg, zdh, zdi, zdj, zdk, zdl, zdm, zdn, zdo, zdp, zdq, zdr, zds, Option.getD_some, Option.getD_none, zfg, zfh, zfi, zfj, zfk, zfl, zfm, zfn, Option.map_some, Option.map_none, Option.bind_some, List.map_cons, List.map_nil, List.cons_append, List.nil_append, ↓reduceIte, Nat.reduceEqDiff, Nat.reduceAdd, decide_true, decide_false, Bool.true_eq_false, Bool.false_eq_true, env0, List.getElem?_cons_zero, List.getElem?_cons_succ, zdt, zdu, zdv, zdw, zdx, zdy, zdz, zea, ia22, ld31, zeb, zec, zed, zee, zef, zeg, zeh, zei, zej, zek, zel, zem, zen, zeo, zep, fa_0, fa_1, zeq, bd_0, bd_2, zer, fd_1, zes, Nat.zero_add, encT, cellsT, faT_0, faT_1, faT_2, faT_3, faT_4, faN_0, faN_1, ldT_0, ldT_2, ldT_3, ldT_4, ldB_1, ldB_2, Nat.reduceAdd, p1, i_eqlV, Int.reduceBEq, eb, g', c2]
        exact finish_b _ _ _ _ _ _ _ (by first | (simp only [zfn, ↓reduceIte, Nat.reduceEqDiff]; done) | (simp only [zfn, ↓reduceIte, Nat.reduceEqDiff]; rfl)) rfl
      · have g' : (i1 == i2) = false := beq_eq_false_iff_ne.mpr g
        rw [hr, decide_eq_false g, Bool.false_and]
        simp only [zaa, zab, zac, zad, zae, zaf, zag, zah, zai, zaj, zak, zal, zam, zan, zao, zap, zaq, zar, zas, zat, zau, zav, zaw, zax, zay, zaz, zba, zbb, zbc, zbd, zbe, zbf, zbg, zbh, zbi, zbj, zbk, zbl, zbm, zbn, zbo, zbp, zbq, Nat.reduceBEq, Bool.or_self, Bool.or_false, Bool.or_true, Bool.and_true, Bool.and_false, Bool.true_and, Bool.false_and, Option.isNone_none, Option.isNone_some, Option.isSome_some, Option.isSome_none, zbr, zbs, zbt, zbu, zbv, zbw, zbx, zby, zbz, zca, zcb, zcc, zcd, zce, zcf, zcg, zch, zci, zcj, zck, zcl, zcm, zcn, zco, zcp, zcq, zcr, zcs, zct, zcu, zcv, zcw, zcx, zcy, zcz, zda, zdb, zdc, zdd, zde, zdf, zdg, zdh, zdi, zdj, zdk, zdl, zdm, zdn, zdo, zdp, zdq, zdr, zds, Option.getD_some, Option.getD_none, zfg, zfh, zfi, zfj, zfk, zfl, zfm, zfn, Option.map_some, Option.map_none, Option.bind_some, List.map_cons, List.map_nil, List.cons_append, List.nil_append, ↓reduceIte, Nat.reduceEqDiff, Nat.reduceAdd, decide_true, decide_false, Bool.true_eq_false, Bool.false_eq_true, env0, List.getElem?_cons_zero, List.getElem?_cons_succ, zdt, zdu, zdv, zdw, zdx, zdy, zdz, zea, ia22, ld31, zeb, zec, zed, zee, zef, zeg, zeh, zei, zej, zek, zel, zem, zen, zeo, zep, fa_0, fa_1, zeq, bd_0, bd_2, zer, fd_1, zes, Nat.zero_add, encT, cellsT, faT_0, faT_1, faT_2, faT_3, faT_4, faN_0, faN_1, ldT_0, ldT_2, ldT_3, ldT_4, ldB_1, ldB_2, Nat.reduceAdd, p1, i_eqlV, Int.reduceBEq, eb, g', c2]
        exact finish_b _ _ _ _ _ _ _ (by first | (simp only [zfn, ↓reduceIte, Nat.reduceEqDiff]; done) | (simp only [zfn, ↓reduceIte, Nat.reduceEqDiff]; rfl)) rfl
    have b7 : (k == 7) = false := beq_eq_false_iff_ne.mpr h7
    by_cases h5 : k = 5
    · subst h5
      have hr : sameT (.mk 5 n1 lg l s i1 kg ks) (.mk 5 n2 lg' l' s' i2 kg' ks') = sameK ks ks' := by first | (simp [sameT, kindT, sgnT, limT, strT, nT, kidsT]; done) | (simp [sameT, kindT, sgnT, limT, strT, nT, kidsT]; rfl)
      rw [hr]
      simp only [zaa, zab, zac, zad, zae, zaf, zag, zah, zai, zaj, zak, zal, zam, zan, zao, zap, zaq, zar, zas, zat, zau, zav, zaw, zax, zay, zaz, zba, zbb, zbc, zbd, zbe, zbf, zbg, zbh, zbi, zbj, zbk, zbl, zbm, zbn, zbo, zbp, zbq, Nat.reduceBEq, Bool.or_self, Bool.or_false, Bool.or_true, Bool.and_true, Bool.and_false, Bool.true_and, Bool.false_and, Option.isNone_none, Option.isNone_some, Option.isSome_some, Option.isSome_none, zbr, zbs, zbt, zbu, zbv, zbw, zbx, zby, zbz, zca, zcb, zcc, zcd, zce, zcf, zcg, zch, zci, zcj, zck, zcl, zcm, zcn, zco, zcp, zcq, zcr, zcs, zct, zcu, zcv, zcw, zcx, zcy, zcz, zda, zdb, zdc, zdd, zde, zdf, zdg, zdh, zdi, zdj, zdk, zdl, zdm, zdn, zdo, zdp, zdq, zdr, zds, Option.getD_some, Option.getD_none, zfg, zfh, zfi, zfj, zfk, zfl, zfm, zfn, Option.map_some, Option.map_none, Option.bind_some, List.map_cons, List.map_nil, List.cons_append, List.nil_append, ↓reduceIte, Nat.reduceEqDiff, Nat.reduceAdd, decide_true, decide_false, Bool.true_eq_false, Bool.false_eq_true, env0, List.getElem?_cons_zero, List.getElem?_cons_succ, zdt, zdu, zdv, zdw, zdx, zdy, zdz, zea, ia22, ld31, zeb, zec, zed, zee, zef, zeg, zeh, zei, zej, zek, zel, zem, zen, zeo, zep, fa_0, fa_1, zeq, bd_0, bd_2, zer, fd_1, zes, Nat.zero_add, encT, cellsT, faT_0, faT_1, faT_2, faT_3, faT_4, faN_0, faN_1, ldT_0, ldT_2, ldT_3, ldT_4, ldB_1, ldB_2, Nat.reduceAdd, p1, i_eqlV, Int.reduceBEq, c2]
      exact finish_b _ _ _ _ _ _ _ (by first | (simp only [zfn, ↓reduceIte, Nat.reduceEqDiff]; done) | (simp only [zfn, ↓reduceIte, Nat.reduceEqDiff]; rfl)) rfl
    have b5 : (k == 5) = false := beq_eq_false_iff_ne.mpr h5
    by_cases h4 : k = 4
    · subst h4
      have hr : sameT (.mk 4 n1 lg l s i1 kg ks) (.mk 4 n2 lg' l' s' i2 kg' ks') = sameK ks ks' := by first | (simp [sameT, kindT, sgnT, limT, strT, nT, kidsT]; done) | (simp [sameT, kindT, sgnT, limT, strT, nT, kidsT]; rfl)
      rw [hr]
      simp only [zaa, zab, zac, zad, zae, zaf, zag, zah, zai, zaj, zak, zal, zam, zan, zao, zap, zaq, zar, zas, zat, zau, zav, zaw, zax, zay, zaz, zba, zbb, zbc, zbd, zbe, zbf, zbg, zbh, zbi, zbj, zbk, zbl, zbm, zbn, zbo, zbp, zbq, Nat.reduceBEq, Bool.or_self, Bool.or_false, Bool.or_true, Bool.and_true, Bool.and_false, Bool.true_and, Bool.false_and, Option.isNone_none, Option.isNone_some, Option.isSome_some, Option.isSome_none, zbr, zbs, zbt, zbu, zbv, zbw, zbx, zby, zbz, zca, zcb, zcc, zcd, zce, zcf, zcg, zch, zci, zcj, zck, zcl, zcm, zcn, zco, zcp, zcq, zcr, zcs, zct, zcu, zcv, zcw, zcx, zcy, zcz, zda, zdb, zdc, zdd, zde, zdf, zdg, zdh, zdi, zdj, zdk, zdl, zdm, zdn, zdo, zdp, zdq, zdr, zds, Option.getD_some, Option.getD_none, zfg, zfh, zfi, zfj, zfk, zfl, zfm, zfn, Option.map_some, Option.map_none, Option.bind_some, List.map_cons, List.map_nil, List.cons_append, List.nil_append, ↓reduceIte, Nat.reduceEqDiff, Nat.reduceAdd, decide_true, decide_false, Bool.true_eq_false, Bool.false_eq_true, env0, List.getElem?_cons_zero, List.getElem?_cons_succ, zdt, zdu, zdv, zdw, zdx, zdy, zdz, zea, ia22, ld31, zeb, zec, zed, zee, zef, zeg, zeh, zei, zej, zek, zel, zem, zen, zeo, zep, fa_0, fa_1, zeq, bd_0, bd_2, zer, fd_1, zes, Nat.zero_add, encT, cellsT, faT_0, faT_1, faT_2, faT_3, faT_4, faN_0, faN_1, ldT_0, ldT_2, ldT_3, ldT_4, ldB_1, ldB_2, Nat.reduceAdd, p1, i_eqlV, Int.reduceBEq, c2]
      exact finish_b _ _ _ _ _ _ _ (by first | (simp only [zfn, ↓reduceIte, Nat.reduceEqDiff]; done) | (simp only [zfn, ↓reduceIte, Nat.reduceEqDiff]; rfl)) rfl
    have b4 : (k == 4) = false := beq_eq_false_iff_ne.mpr h4
    have hr : sameT (.mk k n1 lg l s i1 kg ks) (.mk k n2 lg' l' s' i2 kg' ks') = true := by first | (simp [sameT, kindT, sgnT, limT, strT, nT, kidsT, h1, h2, h4, h5, h6, h7, h8, h9]; done) | (simp [sameT, kindT, sgnT, limT, strT, nT, kidsT, h1, h2, h4, h5, h6, h7, h8, h9]; rfl)
    rw [hr]
    simp only [zaa, zab, zac, zad, zae, zaf, zag, zah, zai, zaj, zak, zal, zam, zan, zao, zap, zaq, zar, zas, zat, zau, zav, zaw, zax, zay, zaz, zba, zbb, zbc, zbd, zbe, zbf, zbg, zbh, zbi, zbj, zbk, zbl, zbm, zbn, zbo, zbp, zbq, Nat.reduceBEq, Bool.or_self, Bool.or_false, Bool.or_true, Bool.and_true, Bool.and_false, Bool.true_and, Bool.false_and, Option.isNone_none, Option.isNone_some, Option.isSome_some, Option.isSome_none, zbr, zbs, zbt, zbu, zbv, zbw, zbx, zby, zbz, zca, zcb, zcc, zcd, zce, zcf, zcg, zch, zci, zcj, zck, zcl, zcm, zcn, zco, zcp, zcq, zcr, zcs, zct, zcu, zcv, zcw, zcx, zcy, zcz, zda, zdb, zdc, zdd, zde, zdf, zdg, zdh, zdi, zdj, zdk, zdl, zdm, zdn, zdo, zdp, zdq, zdr, zds, Option.getD_some, Option.getD_none, zfg, zfh, zfi, zfj, zfk, zfl, zfm, zfn, Option.map_some, Option.map_none, Option.bind_some, List.map_cons, List.map_nil, List.cons_append, List.nil_append, ↓reduceIte, Nat.reduceEqDiff, Nat.reduceAdd, decide_true, decide_false, Bool.true_eq_false, Bool.false_eq_true, env0, List.getElem?_cons_zero, List.getElem?_cons_succ, zdt, zdu, zdv, zdw, zdx, zdy, zdz, zea, ia22, ld31, zeb, zec, zed, zee, zef, zeg, zeh, zei, zej, zek, zel, zem, zen, zeo, zep, fa_0, fa_1, zeq, bd_0, bd_2, zer, fd_1, zes, Nat.zero_add, encT, cellsT, faT_0, ldT_0, p1, i_eqlV, b1, b2, b4, b5, b6, b7, b8, b9]
    exact finish_b _ _ _ _ _ _ _ (by first | (simp only [zfn, ↓reduceIte, Nat.reduceEqDiff]; done) | (simp only [zfn, ↓reduceIte, Nat.reduceEqDiff]; rfl)) rfl
end Go.Ab

/- The document's own check of a term by itself. Conditions: limbs in range; a text shorter than the rounds. -/
namespace Go.Ab
open Go.Proofs
set_option maxRecDepth 100000
set_option linter.unusedSimpArgs false

def badT (m k : Int) (b : Bool) (l : List Nat) (s : List UInt8) : Bool := (m != 0) || ((k != 1) && !zeroB b l) || ((k != 2) && (k != 6) && !(s == []))
def ownS (k : Int) (b : Bool) (l : List Nat) (s : List UInt8) (c : Nat) : Bool :=
  if k = 1 then chkN b l && decide (c = 0) else if k = 2 then s.all okC && (decide (1 ≤ s.length) && decide (s.length ≤ 40) && decide (c = 0)) else if k = 3 then decide (c = 0) else if k = 4 then decide (c = 2) else if k = 5 then decide (c ≤ 40)
  else if k = 6 then decide (s.length ≤ 400) && decide (c = 0) else false
theorem own_split (k : Int) (b : Bool) (lg : Gk) (l : List Nat) (s : List UInt8) (m : Int) (kg : Gk) (ks : List T) :
    ownT (.mk k b lg l s m kg ks) = (!badT m k b l s && ownS k b l s ks.length) := by
  unfold badT ownS
  simp only [ownT]
  by_cases h1 : k = 1
  · subst h1; cases hs : s == [] <;> cases hc : chkN b l <;> by_cases hm : m = 0 <;> simp [hm, hs]
  by_cases h2 : k = 2
  · subst h2
    unfold nameB
    cases hz : zeroB b l <;> by_cases hm : m = 0 <;> simp [hm] <;> cases s.all okC <;> simp
  by_cases h3 : k = 3
  · subst h3; cases hz : zeroB b l <;> cases hs : s == [] <;> by_cases hm : m = 0 <;> simp [hm, hs]
  by_cases h4 : k = 4
  · subst h4; cases hz : zeroB b l <;> cases hs : s == [] <;> by_cases hm : m = 0 <;> simp [hm, hs]
  by_cases h5 : k = 5
  · subst h5; cases hz : zeroB b l <;> cases hs : s == [] <;> by_cases hm : m = 0 <;> simp [hm, hs]
  by_cases h6 : k = 6
  · subst h6; cases hz : zeroB b l <;> by_cases hm : m = 0 <;> simp [hm]
  have hk : ¬ (1 ≤ k ∧ k ≤ 6) := by omega
  simp only [decide_eq_false hk, Bool.false_and, h1, h2, h3, h4, h5, h6, ↓reduceIte, Bool.and_false]
theorem i_neqV (x y : Int) : binA Tryz.prog .neq 3 (.int .i64 x) (.int .i64 y) = some (.bool (x != y)) := rfl
set_option maxHeartbeats 32000000 in
theorem fields_eq (n d : Nat) (k : Int) (b : Bool) (lg : Gk) (l : List Nat) (hl : Limbs l) (s : List UInt8) (hs : s.length < n) (hs2 : s.length ≤ 9223372036854775807) (m : Int) (kg : Gk) (ks : List T) :
    evalFn Tryz.prog cfg0 n (d+2) 68 [.tree (encT (.mk k b lg l s m kg ks))] = some (.tree (.bool (ownT (.mk k b lg l s m kg ks))), [[]]) := by
  rw [own_split]
  rw [evalFn_go _ Tryz.func68 (by unfold Tryz.f68; rfl) (by unfold Tryz.f68; decide) (Nat.le_of_ble_eq_true (by unfold Tryz.f68; rfl)) (by kernel_rfl)]
  have c1 := fun D st => callA_trees (cfg := cfg0) (d := D) (s := st) (f := 97) (vs := [.agg [.bool b, encL lg l]]) rfl (rcheck_eq n d b lg l hl)
  rw [den_assoc, den_assoc]
  refine seq_cut (fun env st => env 1 = .ptr 1 1 0 ∧ st 1 = ⟨1, .buf (cellsT (.mk k b lg l s m kg ks))⟩ ∧ badT m k b l s = false) ?_ ?_
  · intro env st ⟨e1, j1, hb⟩
    rw [hb, Bool.not_false, Bool.true_and]
    simp only [cellsT] at j1
    unfold ownS
    by_cases h1 : k = 1
    · subst h1
      have b1 : ((1 : Int) == 1) = true := rfl
      simp only [↓reduceIte]
      cases hc : chkN b l with
      | true =>
        rw [hc] at c1
        simp only [Bool.true_and]
        simp only [zaa, zab, zac, zad, zae, zaf, zag, zah, zai, zaj, zak, zal, zam, zan, zao, zap, zaq, zar, zas, zat, zau, zav, zaw, zax, zay, zaz, zba, zbb, zbc, zbd, zbe, zbf, zbg, zbh, zbi, zbj, zbk, zbl, zbm, zbn, zbo, zbp, zbq, Nat.reduceBEq, Bool.or_self, Bool.or_false, Bool.or_true, Bool.and_true, Bool.and_false, Bool.true_and, Bool.false_and, Option.isNone_none, Option.isNone_some, Option.isSome_some, Option.isSome_none, zbr, zbs, zbt, zbu, zbv, zbw, zbx, zby, zbz, zca, zcb, zcc, zcd, zce, zcf, zcg, zch, zci, zcj, zck, zcl, zcm, zcn, zco, zcp, zcq, zcr, zcs, zct, zcu, zcv, zcw, zcx, zcy, zcz, zda, zdb, zdc, zdd, zde, zdf, zdg, zdh, zdi, zdj, zdk, zdl, zdm, zdn, zdo, zdp, zdq, zdr, zds, Option.getD_some, Option.getD_none, zfg, zfh, zfi, zfj, zfk, zfl, zfm, zfn, Option.map_some, Option.map_none, Option.bind_some, List.map_cons, List.map_nil, List.cons_append, List.nil_append, ↓reduceIte, Nat.reduceEqDiff, Nat.reduceAdd, decide_true, decide_false, Bool.true_eq_false, Bool.false_eq_true, env0, List.getElem?_cons_zero, List.getElem?_cons_succ, zdt, zdu, zdv, zdw, zdx, zdy, zdz, zea, ia22, ld31, zeb, zec, zet, List.toList_toArray, len9, ix9, zeu, zev, zew, zex, zey, zed, zee, zef, zeg, zeh, zei, zej, zek, zel, zem, zen, zeo, zep, fa_0, fa_1, zeq, bd_0, bd_2, zer, fd_1, zes, Nat.zero_add, e1, j1, faT_0, faT_1, faT_2, faT_4, ldT_0, ldT_1, ldT_2, ldT_4, c1, lenTk, natEq0, i_eqlV, b1]
        exact finish_b _ _ _ _ _ _ _ (by first | (simp only [zfn, ↓reduceIte, Nat.reduceEqDiff]; done) | (simp only [zfn, ↓reduceIte, Nat.reduceEqDiff]; rfl)) rfl
      | false =>
        rw [hc] at c1
        simp only [Bool.false_and]
        simp only [zaa, zab, zac, zad, zae, zaf, zag, zah, zai, zaj, zak, zal, zam, zan, zao, zap, zaq, zar, zas, zat, zau, zav, zaw, zax, zay, zaz, zba, zbb, zbc, zbd, zbe, zbf, zbg, zbh, zbi, zbj, zbk, zbl, zbm, zbn, zbo, zbp, zbq, Nat.reduceBEq, Bool.or_self, Bool.or_false, Bool.or_true, Bool.and_true, Bool.and_false, Bool.true_and, Bool.false_and, Option.isNone_none, Option.isNone_some, Option.isSome_some, Option.isSome_none, zbr, zbs, zbt, zbu, zbv, zbw, zbx, zby, zbz, zca, zcb, zcc, zcd, zce, zcf, zcg, zch, zci, zcj, zck, zcl, zcm, zcn, zco, zcp, zcq, zcr, zcs, zct, zcu, zcv, zcw, zcx, zcy, zcz, zda, zdb, zdc, zdd, zde, zdf, zdg, zdh, zdi, zdj, zdk, zdl, zdm, zdn, zdo, zdp, zdq, zdr, zds, Option.getD_some, Option.getD_none, zfg, zfh, zfi, zfj, zfk, zfl, zfm, zfn, Option.map_some, Option.map_none, Option.bind_some, List.map_cons, List.map_nil, List.cons_append, List.nil_append, ↓reduceIte, Nat.reduceEqDiff, Nat.reduceAdd, decide_true, decide_false, Bool.true_eq_false, Bool.false_eq_true, env0, List.getElem?_cons_zero, List.getElem?_cons_succ, zdt, zdu, zdv, zdw, zdx, zdy, zdz, zea, ia22, ld31, zeb, zec, zet, List.toList_toArray, len9, ix9, zeu, zev, zew, zex, zey, zed, zee, zef, zeg, zeh, zei, zej, zek, zel, zem, zen, zeo, zep, fa_0, fa_1, zeq, bd_0, bd_2, zer, fd_1, zes, Nat.zero_add, e1, j1, faT_0, faT_1, faT_2, faT_4, ldT_0, ldT_1, ldT_2, ldT_4, c1, lenTk, natEq0, i_eqlV, b1]
        exact finish_b _ _ _ _ _ _ _ (by first | (simp only [zfn, ↓reduceIte, Nat.reduceEqDiff]; done) | (simp only [zfn, ↓reduceIte, Nat.reduceEqDiff]; rfl)) rfl
    have b1 : (k == 1) = false := beq_eq_false_iff_ne.mpr h1
    by_cases h2 : k = 2
    · subst h2
      simp only [Int.reduceEq, ↓reduceIte]
      simp only [zaa, zab, zac, zad, zae, zaf, zag, zah, zai, zaj, zak, zal, zam, zan, zao, zap, zaq, zar, zas, zat, zau, zav, zaw, zax, zay, zaz, zba, zbb, zbc, zbd, zbe, zbf, zbg, zbh, zbi, zbj, zbk, zbl, zbm, zbn, zbo, zbp, zbq, Nat.reduceBEq, Bool.or_self, Bool.or_false, Bool.or_true, Bool.and_true, Bool.and_false, Bool.true_and, Bool.false_and, Option.isNone_none, Option.isNone_some, Option.isSome_some, Option.isSome_none, zbr, zbs, zbt, zbu, zbv, zbw, zbx, zby, zbz, zca, zcb, zcc, zcd, zce, zcf, zcg, zch, zci, zcj, zck, zcl, zcm, zcn, zco, zcp, zcq, zcr, zcs, zct, zcu, zcv, zcw, zcx, zcy, zcz, zda, zdb, zdc, zdd, zde, zdf, zdg, zdh, zdi, zdj, zdk, zdl, zdm, zdn, zdo, zdp, zdq, zdr, zds, Option.getD_some, Option.getD_none, zfg, zfh, zfi, zfj, zfk, zfl, zfm, zfn, Option.map_some, Option.map_none, Option.bind_some, List.map_cons, List.map_nil, List.cons_append, List.nil_append, ↓reduceIte, Nat.reduceEqDiff, Nat.reduceAdd, decide_true, decide_false, Bool.true_eq_false, Bool.false_eq_true, env0, List.getElem?_cons_zero, List.getElem?_cons_succ, zdt, zdu, zdv, zdw, zdx, zdy, zdz, zea, ia22, ld31, zeb, zec, zet, List.toList_toArray, len9, ix9, zeu, zev, zew, zex, zey, zed, zee, zef, zeg, zeh, zei, zej, zek, zel, zem, zen, zeo, zep, fa_0, fa_1, zeq, bd_0, bd_2, zer, fd_1, zes, Nat.zero_add, e1, j1, faT_0, faT_1, faT_2, faT_4, ldT_0, ldT_1, ldT_2, ldT_4, i_eqlV, Int.reduceBEq, den_loop]
      refine loop_ends (X := Nat) (fun i env s' => env 1 = .ptr 1 1 0 ∧ env 4 = .int .i64 (i : Int) ∧ s' 1 = ⟨1, .buf (cellsT (.mk 2 b lg l s m kg ks))⟩ ∧ i ≤ s.length ∧ (s.take i).all okC = true) (fun i => s.length - i) (fun _ => (.tree (.bool (s.all okC && (decide (1 ≤ s.length) && decide (s.length ≤ 40) && decide (ks.length = 0)))), [[]])) ?_ n 0 _ _ (by omega) ⟨(by first | (simp only [zfn, ↓reduceIte, Nat.reduceEqDiff, e1]; done) | (simp only [zfn, ↓reduceIte, Nat.reduceEqDiff, e1]; rfl)), (by first | (simp only [zfn, ↓reduceIte, Nat.reduceEqDiff]; done) | (simp only [zfn, ↓reduceIte, Nat.reduceEqDiff]; rfl)), by simp only [cellsT]; exact (by first | (simp only [zfn, ↓reduceIte, Nat.reduceEqDiff, j1]; done) | (simp only [zfn, ↓reduceIte, Nat.reduceEqDiff, j1]; rfl)), Nat.zero_le _, rfl⟩
      intro r i hx ih env st ⟨e1, e4, j1, hi, ha⟩
      simp only [cellsT] at j1
      by_cases hp : i = s.length
      · subst hp
        have q1 : ¬ ((s.length : Int) < (s.length : Int)) := by omega
        rw [List.take_length] at ha
        rw [ha, Bool.true_and]
        by_cases g1 : 1 ≤ s.length
        · have g1' : (s.length : Int) ≥ 1 := by omega
          rw [decide_eq_true g1, Bool.true_and]
          by_cases g2 : s.length ≤ 40
          · have g2' : (s.length : Int) ≤ 40 := by omega
            rw [decide_eq_true g2, Bool.true_and]
            simp only [zaa, zab, zac, zad, zae, zaf, zag, zah, zai, zaj, zak, zal, zam, zan, zao, zap, zaq, zar, zas, zat, zau, zav, zaw, zax, zay, zaz, zba, zbb, zbc, zbd, zbe, zbf, zbg, zbh, zbi, zbj, zbk, zbl, zbm, zbn, zbo, zbp, zbq, Nat.reduceBEq, Bool.or_self, Bool.or_false, Bool.or_true, Bool.and_true, Bool.and_false, Bool.true_and, Bool.false_and, Option.isNone_none, Option.isNone_some, Option.isSome_some, Option.isSome_none, zbr, zbs, zbt, zbu, zbv, zbw, zbx, zby, zbz, zca, zcb, zcc, zcd, zce, zcf, zcg, zch, zci, zcj, zck, zcl, zcm, zcn, zco, zcp, zcq, zcr, zcs, zct, zcu, zcv, zcw, zcx, zcy, zcz, zda, zdb, zdc, zdd, zde, zdf, zdg, zdh, zdi, zdj, zdk, zdl, zdm, zdn, zdo, zdp, zdq, zdr, zds, Option.getD_some, Option.getD_none, zfg, zfh, zfi, zfj, zfk, zfl, zfm, zfn, Option.map_some, Option.map_none, Option.bind_some, List.map_cons, List.map_nil, List.cons_append, List.nil_append, ↓reduceIte, Nat.reduceEqDiff, Nat.reduceAdd, decide_true, decide_false, Bool.true_eq_false, Bool.false_eq_true, zdt, zdu, zdv, zdw, zdx, zdy, zdz, zea, ia22, ld31, zeb, zec, zet, List.toList_toArray, len9, ix9, zeu, zev, zew, zex, zey, zed, zee, zef, zeg, zeh, zei, zej, zek, zel, zem, zen, zeo, zep, fa_0, fa_1, zeq, bd_0, bd_2, zer, fd_1, zes, Nat.zero_add, e1, e4, j1, faT_0, faT_2, faT_4, ldT_0, ldT_2, ldT_4, q1, g1', g2', lenTk, i_eqlV, natEq0]
            exact finish_b _ _ _ _ _ _ _ (by first | (simp only [zfn, ↓reduceIte, Nat.reduceEqDiff]; done) | (simp only [zfn, ↓reduceIte, Nat.reduceEqDiff]; rfl)) rfl
          · have g2' : ¬ (s.length : Int) ≤ 40 := by omega
            rw [decide_eq_false g2, Bool.false_and]
            simp only [zaa, zab, zac, zad, zae, zaf, zag, zah, zai, zaj, zak, zal, zam, zan, zao, zap, zaq, zar, zas, zat, zau, zav, zaw, zax, zay, zaz, zba, zbb, zbc, zbd, zbe, zbf, zbg, zbh, zbi, zbj, zbk, zbl, zbm, zbn, zbo, zbp, zbq, Nat.reduceBEq, Bool.or_self, Bool.or_false, Bool.or_true, Bool.and_true, Bool.and_false, Bool.true_and, Bool.false_and, Option.isNone_none, Option.isNone_some, Option.isSome_some, Option.isSome_none, zbr, zbs, zbt, zbu, zbv, zbw, zbx, zby, zbz, zca, zcb, zcc, zcd, zce, zcf, zcg, zch, zci, zcj, zck, zcl, zcm, zcn, zco, zcp, zcq, zcr, zcs, zct, zcu, zcv, zcw, zcx, zcy, zcz, zda, zdb, zdc, zdd, zde, zdf, zdg, zdh, zdi, zdj, zdk, zdl, zdm, zdn, zdo, zdp, zdq, zdr, zds, Option.getD_some, Option.getD_none, zfg, zfh, zfi, zfj, zfk, zfl, zfm, zfn, Option.map_some, Option.map_none, Option.bind_some, List.map_cons, List.map_nil, List.cons_append, List.nil_append, ↓reduceIte, Nat.reduceEqDiff, Nat.reduceAdd, decide_true, decide_false, Bool.true_eq_false, Bool.false_eq_true, zdt, zdu, zdv, zdw, zdx, zdy, zdz, zea, ia22, ld31, zeb, zec, zet, List.toList_toArray, len9, ix9, zeu, zev, zew, zex, zey, zed, zee, zef, zeg, zeh, zei, zej, zek, zel, zem, zen, zeo, zep, fa_0, fa_1, zeq, bd_0, bd_2, zer, fd_1, zes, Nat.zero_add, e1, e4, j1, faT_0, faT_2, faT_4, ldT_0, ldT_2, ldT_4, q1, g1', g2', lenTk, i_eqlV, natEq0]
            exact finish_b _ _ _ _ _ _ _ (by first | (simp only [zfn, ↓reduceIte, Nat.reduceEqDiff]; done) | (simp only [zfn, ↓reduceIte, Nat.reduceEqDiff]; rfl)) rfl
        · have g1' : ¬ (s.length : Int) ≥ 1 := by omega
          rw [decide_eq_false g1, Bool.false_and, Bool.false_and]
          simp only [zaa, zab, zac, zad, zae, zaf, zag, zah, zai, zaj, zak, zal, zam, zan, zao, zap, zaq, zar, zas, zat, zau, zav, zaw, zax, zay, zaz, zba, zbb, zbc, zbd, zbe, zbf, zbg, zbh, zbi, zbj, zbk, zbl, zbm, zbn, zbo, zbp, zbq, Nat.reduceBEq, Bool.or_self, Bool.or_false, Bool.or_true, Bool.and_true, Bool.and_false, Bool.true_and, Bool.false_and, Option.isNone_none, Option.isNone_some, Option.isSome_some, Option.isSome_none, zbr, zbs, zbt, zbu, zbv, zbw, zbx, zby, zbz, zca, zcb, zcc, zcd, zce, zcf, zcg, zch, zci, zcj, zck, zcl, zcm, zcn, zco, zcp, zcq, zcr, zcs, zct, zcu, zcv, zcw, zcx, zcy, zcz, zda, zdb, zdc, zdd, zde, zdf, zdg, zdh, zdi, zdj, zdk, zdl, zdm, zdn, zdo, zdp, zdq, zdr, zds, Option.getD_some, Option.getD_none, zfg, zfh, zfi, zfj, zfk, zfl, zfm, zfn, Option.map_some, Option.map_none, Option.bind_some, List.map_cons, List.map_nil, List.cons_append, List.nil_append, ↓reduceIte, Nat.reduceEqDiff, Nat.reduceAdd, decide_true, decide_false, Bool.true_eq_false, Bool.false_eq_true, zdt, zdu, zdv, zdw, zdx, zdy, zdz, zea, ia22, ld31, zeb, zec, zet, List.toList_toArray, len9, ix9, zeu, zev, zew, zex, zey, zed, zee, zef, zeg, zeh, zei, zej, zek, zel, zem, zen, zeo, zep, fa_0, fa_1, zeq, bd_0, bd_2, zer, fd_1, zes, Nat.zero_add, e1, e4, j1, faT_0, faT_2, faT_4, ldT_0, ldT_2, ldT_4, q1, g1', lenTk, i_eqlV, natEq0]
          exact finish_b _ _ _ _ _ _ _ (by first | (simp only [zfn, ↓reduceIte, Nat.reduceEqDiff]; done) | (simp only [zfn, ↓reduceIte, Nat.reduceEqDiff]; rfl)) rfl
      · have q1 : (i : Int) < (s.length : Int) := by omega
        have q2 : (0 : Int) ≤ (i : Int) ∧ (i : Int) < (s.length : Int) := by omega
        have f4 := i_add Tryz.prog 3 (i : Int) 1 (by omega) (by omega)
        have hst : s.take (i + 1) = s.take i ++ [s.getD i 0] := by
          rw [List.take_add_one, List.getD, List.getElem?_eq_getElem (by omega)]; rfl
        have ha1 : ∀ c, s.getD i 0 = c → okC c = true → (s.take (i + 1)).all okC = true := by
          intro c hc ho
          rw [hst, hc, List.all_append, ha]; simp [ho]
        have ha0 : ∀ c, s.getD i 0 = c → okC c = false → s.all okC = false := by
          intro c hc ho
          rw [List.all_eq_false]
          refine ⟨c, ?_, by rw [ho]; decide⟩
          rw [← hc, List.getD, List.getElem?_eq_getElem (by omega)]
          exact List.getElem_mem _
        generalize hc : s.getD i 0 = c at ha1 ha0
        replace ha1 := ha1 c rfl
        replace ha0 := ha0 c rfl
        by_cases c1 : (c.toNat : Int) < 33
        · rw [ha0 (by unfold okC; rw [decide_eq_false (by omega)]; rfl), Bool.false_and]
          simp only [zaa, zab, zac, zad, zae, zaf, zag, zah, zai, zaj, zak, zal, zam, zan, zao, zap, zaq, zar, zas, zat, zau, zav, zaw, zax, zay, zaz, zba, zbb, zbc, zbd, zbe, zbf, zbg, zbh, zbi, zbj, zbk, zbl, zbm, zbn, zbo, zbp, zbq, Nat.reduceBEq, Bool.or_self, Bool.or_false, Bool.or_true, Bool.and_true, Bool.and_false, Bool.true_and, Bool.false_and, Option.isNone_none, Option.isNone_some, Option.isSome_some, Option.isSome_none, zbr, zbs, zbt, zbu, zbv, zbw, zbx, zby, zbz, zca, zcb, zcc, zcd, zce, zcf, zcg, zch, zci, zcj, zck, zcl, zcm, zcn, zco, zcp, zcq, zcr, zcs, zct, zcu, zcv, zcw, zcx, zcy, zcz, zda, zdb, zdc, zdd, zde, zdf, zdg, zdh, zdi, zdj, zdk, zdl, zdm, zdn, zdo, zdp, zdq, zdr, zds, Option.getD_some, Option.getD_none, zfg, zfh, zfi, zfj, zfk, zfl, zfm, zfn, Option.map_some, Option.map_none, Option.bind_some, List.map_cons, List.map_nil, List.cons_append, List.nil_append, ↓reduceIte, Nat.reduceEqDiff, Nat.reduceAdd, decide_true, decide_false, Bool.true_eq_false, Bool.false_eq_true, zdt, zdu, zdv, zdw, zdx, zdy, zdz, zea, ia22, ld31, zeb, zec, zet, List.toList_toArray, len9, ix9, zeu, zev, zew, zex, zey, zed, zee, zef, zeg, zeh, zei, zej, zek, zel, zem, zen, zeo, zep, fa_0, fa_1, zeq, bd_0, bd_2, zer, fd_1, zes, Nat.zero_add, e1, e4, j1, faT_0, faT_2, faT_4, ldT_0, ldT_2, ldT_4, q1, q2, and_self, Int.toNat_natCast, hc, c1]
          exact finish_b _ _ _ _ _ _ _ (by first | (simp only [zfn, ↓reduceIte, Nat.reduceEqDiff]; done) | (simp only [zfn, ↓reduceIte, Nat.reduceEqDiff]; rfl)) rfl
        by_cases c2 : (c.toNat : Int) > 126
        · rw [ha0 (by unfold okC; rw [decide_eq_false (p := c.toNat ≤ 126) (by omega)]; simp), Bool.false_and]
          simp only [zaa, zab, zac, zad, zae, zaf, zag, zah, zai, zaj, zak, zal, zam, zan, zao, zap, zaq, zar, zas, zat, zau, zav, zaw, zax, zay, zaz, zba, zbb, zbc, zbd, zbe, zbf, zbg, zbh, zbi, zbj, zbk, zbl, zbm, zbn, zbo, zbp, zbq, Nat.reduceBEq, Bool.or_self, Bool.or_false, Bool.or_true, Bool.and_true, Bool.and_false, Bool.true_and, Bool.false_and, Option.isNone_none, Option.isNone_some, Option.isSome_some, Option.isSome_none, zbr, zbs, zbt, zbu, zbv, zbw, zbx, zby, zbz, zca, zcb, zcc, zcd, zce, zcf, zcg, zch, zci, zcj, zck, zcl, zcm, zcn, zco, zcp, zcq, zcr, zcs, zct, zcu, zcv, zcw, zcx, zcy, zcz, zda, zdb, zdc, zdd, zde, zdf, zdg, zdh, zdi, zdj, zdk, zdl, zdm, zdn, zdo, zdp, zdq, zdr, zds, Option.getD_some, Option.getD_none, zfg, zfh, zfi, zfj, zfk, zfl, zfm, zfn, Option.map_some, Option.map_none, Option.bind_some, List.map_cons, List.map_nil, List.cons_append, List.nil_append, ↓reduceIte, Nat.reduceEqDiff, Nat.reduceAdd, decide_true, decide_false, Bool.true_eq_false, Bool.false_eq_true, zdt, zdu, zdv, zdw, zdx, zdy, zdz, zea, ia22, ld31, zeb, zec, zet, List.toList_toArray, len9, ix9, zeu, zev, zew, zex, zey, zed, zee, zef, zeg, zeh, zei, zej, zek, zel, zem, zen, zeo, zep, fa_0, fa_1, zeq, bd_0, bd_2, zer, fd_1, zes, Nat.zero_add, e1, e4, j1, faT_0, faT_2, faT_4, ldT_0, ldT_2, ldT_4, q1, q2, and_self, Int.toNat_natCast, hc, c1, c2]
          exact finish_b _ _ _ _ _ _ _ (by first | (simp only [zfn, ↓reduceIte, Nat.reduceEqDiff]; done) | (simp only [zfn, ↓reduceIte, Nat.reduceEqDiff]; rfl)) rfl
        · have ha1 := ha1 (by unfold okC; rw [decide_eq_true (by omega), decide_eq_true (by omega)]; rfl)
          simp only [zaa, zab, zac, zad, zae, zaf, zag, zah, zai, zaj, zak, zal, zam, zan, zao, zap, zaq, zar, zas, zat, zau, zav, zaw, zax, zay, zaz, zba, zbb, zbc, zbd, zbe, zbf, zbg, zbh, zbi, zbj, zbk, zbl, zbm, zbn, zbo, zbp, zbq, Nat.reduceBEq, Bool.or_self, Bool.or_false, Bool.or_true, Bool.and_true, Bool.and_false, Bool.true_and, Bool.false_and, Option.isNone_none, Option.isNone_some, Option.isSome_some, Option.isSome_none, zbr, zbs, zbt, zbu, zbv, zbw, zbx, zby, zbz, zca, zcb, zcc, zcd, zce, zcf, zcg, zch, zci, zcj, zck, zcl, zcm, zcn, zco, zcp, zcq, zcr, zcs, zct, zcu, zcv, zcw, zcx, zcy, zcz, zda, zdb, zdc, zdd, zde, zdf, zdg, zdh, zdi, zdj, zdk, zdl, zdm, zdn, zdo, zdp, zdq, zdr, zds, Option.getD_some, Option.getD_none, zfg, zfh, zfi, zfj, zfk, zfl, zfm, zfn, Option.map_some, Option.map_none, Option.bind_some, List.map_cons, List.map_nil, List.cons_append, List.nil_append, ↓reduceIte, Nat.reduceEqDiff, Nat.reduceAdd, decide_true, decide_false, Bool.true_eq_false, Bool.false_eq_true, zdt, zdu, zdv, zdw, zdx, zdy, zdz, zea, ia22, ld31, zeb, zec, zet, List.toList_toArray, len9, ix9, zeu, zev, zew, zex, zey, zed, zee, zef, zeg, zeh, zei, zej, zek, zel, zem, zen, zeo, zep, fa_0, fa_1, zeq, bd_0, bd_2, zer, fd_1, zes, Nat.zero_add, e1, e4, j1, faT_0, faT_2, faT_4, ldT_0, ldT_2, ldT_4, q1, q2, and_self, Int.toNat_natCast, hc, c1, c2, f4]
          exact ih (i + 1) _ _ (by omega) rfl ⟨(by first | (simp only [zfn, ↓reduceIte, Nat.reduceEqDiff, e1]; done) | (simp only [zfn, ↓reduceIte, Nat.reduceEqDiff, e1]; rfl)), (by first | (simp only [zfn, ↓reduceIte, Nat.reduceEqDiff]; done) | (simp only [zfn, ↓reduceIte, Nat.reduceEqDiff]; rfl)), by simp only [cellsT]; exact (by first | (simp only [zfn, ↓reduceIte, Nat.reduceEqDiff, j1]; done) | (simp only [zfn, ↓reduceIte, Nat.reduceEqDiff, j1]; rfl)), by omega, ha1⟩
    have b2 : (k == 2) = false := beq_eq_false_iff_ne.mpr h2
    by_cases h3 : k = 3
    · subst h3
      simp only [Int.reduceEq, ↓reduceIte]
      simp only [zaa, zab, zac, zad, zae, zaf, zag, zah, zai, zaj, zak, zal, zam, zan, zao, zap, zaq, zar, zas, zat, zau, zav, zaw, zax, zay, zaz, zba, zbb, zbc, zbd, zbe, zbf, zbg, zbh, zbi, zbj, zbk, zbl, zbm, zbn, zbo, zbp, zbq, Nat.reduceBEq, Bool.or_self, Bool.or_false, Bool.or_true, Bool.and_true, Bool.and_false, Bool.true_and, Bool.false_and, Option.isNone_none, Option.isNone_some, Option.isSome_some, Option.isSome_none, zbr, zbs, zbt, zbu, zbv, zbw, zbx, zby, zbz, zca, zcb, zcc, zcd, zce, zcf, zcg, zch, zci, zcj, zck, zcl, zcm, zcn, zco, zcp, zcq, zcr, zcs, zct, zcu, zcv, zcw, zcx, zcy, zcz, zda, zdb, zdc, zdd, zde, zdf, zdg, zdh, zdi, zdj, zdk, zdl, zdm, zdn, zdo, zdp, zdq, zdr, zds, Option.getD_some, Option.getD_none, zfg, zfh, zfi, zfj, zfk, zfl, zfm, zfn, Option.map_some, Option.map_none, Option.bind_some, List.map_cons, List.map_nil, List.cons_append, List.nil_append, ↓reduceIte, Nat.reduceEqDiff, Nat.reduceAdd, decide_true, decide_false, Bool.true_eq_false, Bool.false_eq_true, env0, List.getElem?_cons_zero, List.getElem?_cons_succ, zdt, zdu, zdv, zdw, zdx, zdy, zdz, zea, ia22, ld31, zeb, zec, zet, List.toList_toArray, len9, ix9, zeu, zev, zew, zex, zey, zed, zee, zef, zeg, zeh, zei, zej, zek, zel, zem, zen, zeo, zep, fa_0, fa_1, zeq, bd_0, bd_2, zer, fd_1, zes, Nat.zero_add, e1, j1, faT_0, faT_4, ldT_0, ldT_4, lenTk, natEq0, i_eqlV, Int.reduceBEq]
      exact finish_b _ _ _ _ _ _ _ (by first | (simp only [zfn, ↓reduceIte, Nat.reduceEqDiff]; done) | (simp only [zfn, ↓reduceIte, Nat.reduceEqDiff]; rfl)) rfl
    have b3 : (k == 3) = false := beq_eq_false_iff_ne.mpr h3
    by_cases h4 : k = 4
    · subst h4
      simp only [Int.reduceEq, ↓reduceIte]
      simp only [zaa, zab, zac, zad, zae, zaf, zag, zah, zai, zaj, zak, zal, zam, zan, zao, zap, zaq, zar, zas, zat, zau, zav, zaw, zax, zay, zaz, zba, zbb, zbc, zbd, zbe, zbf, zbg, zbh, zbi, zbj, zbk, zbl, zbm, zbn, zbo, zbp, zbq, Nat.reduceBEq, Bool.or_self, Bool.or_false, Bool.or_true, Bool.and_true, Bool.and_false, Bool.true_and, Bool.false_and, Option.isNone_none, Option.isNone_some, Option.isSome_some, Option.isSome_none, zbr, zbs, zbt, zbu, zbv, zbw, zbx, zby, zbz, zca, zcb, zcc, zcd, zce, zcf, zcg, zch, zci, zcj, zck, zcl, zcm, zcn, zco, zcp, zcq, zcr, zcs, zct, zcu, zcv, zcw, zcx, zcy, zcz, zda, zdb, zdc, zdd, zde, zdf, zdg, zdh, zdi, zdj, zdk, zdl, zdm, zdn, zdo, zdp, zdq, zdr, zds, Option.getD_some, Option.getD_none, zfg, zfh, zfi, zfj, zfk, zfl, zfm, zfn, Option.map_some, Option.map_none, Option.bind_some, List.map_cons, List.map_nil, List.cons_append, List.nil_append, ↓reduceIte, Nat.reduceEqDiff, Nat.reduceAdd, decide_true, decide_false, Bool.true_eq_false, Bool.false_eq_true, env0, List.getElem?_cons_zero, List.getElem?_cons_succ, zdt, zdu, zdv, zdw, zdx, zdy, zdz, zea, ia22, ld31, zeb, zec, zet, List.toList_toArray, len9, ix9, zeu, zev, zew, zex, zey, zed, zee, zef, zeg, zeh, zei, zej, zek, zel, zem, zen, zeo, zep, fa_0, fa_1, zeq, bd_0, bd_2, zer, fd_1, zes, Nat.zero_add, e1, j1, faT_0, faT_4, ldT_0, ldT_4, lenTk, natEq2, i_eqlV, Int.reduceBEq]
      exact finish_b _ _ _ _ _ _ _ (by first | (simp only [zfn, ↓reduceIte, Nat.reduceEqDiff]; done) | (simp only [zfn, ↓reduceIte, Nat.reduceEqDiff]; rfl)) rfl
    have b4 : (k == 4) = false := beq_eq_false_iff_ne.mpr h4
    by_cases h5 : k = 5
    · subst h5
      have e40 : decide (ks.length ≤ 40) = decide ((ks.length : Int) ≤ 40) := by rw [Bool.eq_iff_iff, decide_eq_true_eq, decide_eq_true_eq]; omega
      simp only [Int.reduceEq, ↓reduceIte, e40]
      simp only [zaa, zab, zac, zad, zae, zaf, zag, zah, zai, zaj, zak, zal, zam, zan, zao, zap, zaq, zar, zas, zat, zau, zav, zaw, zax, zay, zaz, zba, zbb, zbc, zbd, zbe, zbf, zbg, zbh, zbi, zbj, zbk, zbl, zbm, zbn, zbo, zbp, zbq, Nat.reduceBEq, Bool.or_self, Bool.or_false, Bool.or_true, Bool.and_true, Bool.and_false, Bool.true_and, Bool.false_and, Option.isNone_none, Option.isNone_some, Option.isSome_some, Option.isSome_none, zbr, zbs, zbt, zbu, zbv, zbw, zbx, zby, zbz, zca, zcb, zcc, zcd, zce, zcf, zcg, zch, zci, zcj, zck, zcl, zcm, zcn, zco, zcp, zcq, zcr, zcs, zct, zcu, zcv, zcw, zcx, zcy, zcz, zda, zdb, zdc, zdd, zde, zdf, zdg, zdh, zdi, zdj, zdk, zdl, zdm, zdn, zdo, zdp, zdq, zdr, zds, Option.getD_some, Option.getD_none, zfg, zfh, zfi, zfj, zfk, zfl, zfm, zfn, Option.map_some, Option.map_none, Option.bind_some, List.map_cons, List.map_nil, List.cons_append, List.nil_append, ↓reduceIte, Nat.reduceEqDiff, Nat.reduceAdd, decide_true, decide_false, Bool.true_eq_false, Bool.false_eq_true, env0, List.getElem?_cons_zero, List.getElem?_cons_succ, zdt, zdu, zdv, zdw, zdx, zdy, zdz, zea, ia22, ld31, zeb, zec, zet, List.toList_toArray, len9, ix9, zeu, zev, zew, zex, zey, zed, zee, zef, zeg, zeh, zei, zej, zek, zel, zem, zen, zeo, zep, fa_0, fa_1, zeq, bd_0, bd_2, zer, fd_1, zes, Nat.zero_add, e1, j1, faT_0, faT_4, ldT_0, ldT_4, lenTk, i_eqlV, i_leqV, Int.reduceBEq]
      exact finish_b _ _ _ _ _ _ _ (by first | (simp only [zfn, ↓reduceIte, Nat.reduceEqDiff]; done) | (simp only [zfn, ↓reduceIte, Nat.reduceEqDiff]; rfl)) rfl
    have b5 : (k == 5) = false := beq_eq_false_iff_ne.mpr h5
    by_cases h6 : k = 6
    · subst h6
      simp only [Int.reduceEq, ↓reduceIte]
      by_cases g : s.length ≤ 400
      · have g' : (s.length : Int) ≤ 400 := by omega
        rw [decide_eq_true g, Bool.true_and]
        simp only [zaa, zab, zac, zad, zae, zaf, zag, zah, zai, zaj, zak, zal, zam, zan, zao, zap, zaq, zar, zas, zat, zau, zav, zaw, zax, zay, zaz, zba, zbb, zbc, zbd, zbe, zbf, zbg, zbh, zbi, zbj, zbk, zbl, zbm, zbn, zbo, zbp, zbq, Nat.reduceBEq, Bool.or_self, Bool.or_false, Bool.or_true, Bool.and_true, Bool.and_false, Bool.true_and, Bool.false_and, Option.isNone_none, Option.isNone_some, Option.isSome_some, Option.isSome_none, zbr, zbs, zbt, zbu, zbv, zbw, zbx, zby, zbz, zca, zcb, zcc, zcd, zce, zcf, zcg, zch, zci, zcj, zck, zcl, zcm, zcn, zco, zcp, zcq, zcr, zcs, zct, zcu, zcv, zcw, zcx, zcy, zcz, zda, zdb, zdc, zdd, zde, zdf, zdg, zdh, zdi, zdj, zdk, zdl, zdm, zdn, zdo, zdp, zdq, zdr, zds, Option.getD_some, Option.getD_none, zfg, zfh, zfi, zfj, zfk, zfl, zfm, zfn, Option.map_some, Option.map_none, Option.bind_some, List.map_cons, List.map_nil, List.cons_append, List.nil_append, ↓reduceIte, Nat.reduceEqDiff, Nat.reduceAdd, decide_true, decide_false, Bool.true_eq_false, Bool.false_eq_true, env0, List.getElem?_cons_zero, List.getElem?_cons_succ, zdt, zdu, zdv, zdw, zdx, zdy, zdz, zea, ia22, ld31, zeb, zec, zet, List.toList_toArray, len9, ix9, zeu, zev, zew, zex, zey, zed, zee, zef, zeg, zeh, zei, zej, zek, zel, zem, zen, zeo, zep, fa_0, fa_1, zeq, bd_0, bd_2, zer, fd_1, zes, Nat.zero_add, e1, j1, faT_0, faT_2, faT_4, ldT_0, ldT_2, ldT_4, lenTk, natEq0, i_eqlV, Int.reduceBEq, g']
        exact finish_b _ _ _ _ _ _ _ (by first | (simp only [zfn, ↓reduceIte, Nat.reduceEqDiff]; done) | (simp only [zfn, ↓reduceIte, Nat.reduceEqDiff]; rfl)) rfl
      · have g' : ¬ (s.length : Int) ≤ 400 := by omega
        rw [decide_eq_false g, Bool.false_and]
        simp only [zaa, zab, zac, zad, zae, zaf, zag, zah, zai, zaj, zak, zal, zam, zan, zao, zap, zaq, zar, zas, zat, zau, zav, zaw, zax, zay, zaz, zba, zbb, zbc, zbd, zbe, zbf, zbg, zbh, zbi, zbj, zbk, zbl, zbm, zbn, zbo, zbp, zbq, Nat.reduceBEq, Bool.or_self, Bool.or_false, Bool.or_true, Bool.and_true, Bool.and_false, Bool.true_and, Bool.false_and, Option.isNone_none, Option.isNone_some, Option.isSome_some, Option.isSome_none, zbr, zbs, zbt, zbu, zbv, zbw, zbx, zby, zbz, zca, zcb, zcc, zcd, zce, zcf, zcg, zch, zci, zcj, zck, zcl, zcm, zcn, zco, zcp, zcq, zcr, zcs, zct, zcu, zcv, zcw, zcx, zcy, zcz, zda, zdb, zdc, zdd, zde, zdf, zdg, zdh, zdi, zdj, zdk, zdl, zdm, zdn, zdo, zdp, zdq, zdr, zds, Option.getD_some, Option.getD_none, zfg, zfh, zfi, zfj, zfk, zfl, zfm, zfn, Option.map_some, Option.map_none, Option.bind_some, List.map_cons, List.map_nil, List.cons_append, List.nil_append, ↓reduceIte, Nat.reduceEqDiff, Nat.reduceAdd, decide_true, decide_false, Bool.true_eq_false, Bool.false_eq_true, env0, List.getElem?_cons_zero, List.getElem?_cons_succ, zdt, zdu, zdv, zdw, zdx, zdy, zdz, zea, ia22, ld31, zeb, zec, zet, List.toList_toArray, len9, ix9, zeu, zev, zew, zex, zey, zed, zee, zef, zeg, zeh, zei, zej, zek, zel, zem, zen, zeo, zep, fa_0, fa_1, zeq, bd_0, bd_2, zer, fd_1, zes, Nat.zero_add, e1, j1, faT_0, faT_2, faT_4, ldT_0, ldT_2, ldT_4, lenTk, natEq0, i_eqlV, Int.reduceBEq, g']
        exact finish_b _ _ _ _ _ _ _ (by first | (simp only [zfn, ↓reduceIte, Nat.reduceEqDiff]; done) | (simp only [zfn, ↓reduceIte, Nat.reduceEqDiff]; rfl)) rfl
    have b6 : (k == 6) = false := beq_eq_false_iff_ne.mpr h6
    simp only [h1, h2, h3, h4, h5, h6, ↓reduceIte]
    simp only [zaa, zab, zac, zad, zae, zaf, zag, zah, zai, zaj, zak, zal, zam, zan, zao, zap, zaq, zar, zas, zat, zau, zav, zaw, zax, zay, zaz, zba, zbb, zbc, zbd, zbe, zbf, zbg, zbh, zbi, zbj, zbk, zbl, zbm, zbn, zbo, zbp, zbq, Nat.reduceBEq, Bool.or_self, Bool.or_false, Bool.or_true, Bool.and_true, Bool.and_false, Bool.true_and, Bool.false_and, Option.isNone_none, Option.isNone_some, Option.isSome_some, Option.isSome_none, zbr, zbs, zbt, zbu, zbv, zbw, zbx, zby, zbz, zca, zcb, zcc, zcd, zce, zcf, zcg, zch, zci, zcj, zck, zcl, zcm, zcn, zco, zcp, zcq, zcr, zcs, zct, zcu, zcv, zcw, zcx, zcy, zcz, zda, zdb, zdc, zdd, zde, zdf, zdg, zdh, zdi, zdj, zdk, zdl, zdm, zdn, zdo, zdp, zdq, zdr, zds, Option.getD_some, Option.getD_none, zfg, zfh, zfi, zfj, zfk, zfl, zfm, zfn, Option.map_some, Option.map_none, Option.bind_some, List.map_cons, List.map_nil, List.cons_append, List.nil_append, ↓reduceIte, Nat.reduceEqDiff, Nat.reduceAdd, decide_true, decide_false, Bool.true_eq_false, Bool.false_eq_true, env0, List.getElem?_cons_zero, List.getElem?_cons_succ, zdt, zdu, zdv, zdw, zdx, zdy, zdz, zea, ia22, ld31, zeb, zec, zet, List.toList_toArray, len9, ix9, zeu, zev, zew, zex, zey, zed, zee, zef, zeg, zeh, zei, zej, zek, zel, zem, zen, zeo, zep, fa_0, fa_1, zeq, bd_0, bd_2, zer, fd_1, zes, Nat.zero_add, e1, j1, faT_0, faT_4, ldT_0, ldT_4, i_eqlV, b1, b2, b3, b4, b5, b6]
    exact finish_b _ _ _ _ _ _ _ (by first | (simp only [zfn, ↓reduceIte, Nat.reduceEqDiff]; done) | (simp only [zfn, ↓reduceIte, Nat.reduceEqDiff]; rfl)) rfl
  · intro K hN hR hE
    refine seq_cut (fun env st => env 1 = .ptr 1 1 0 ∧ st 1 = ⟨1, .buf (cellsT (.mk k b lg l s m kg ks))⟩ ∧ env 3 = .bool (zeroB b l)) ?_ ?_
    · intro env st ⟨e1, j1, e3⟩
      have j1' := j1
      simp only [cellsT] at j1
      unfold badT at hN ⊢
      generalize zeroB b l = z at hN e3 ⊢
      cases x1 : (m != 0) with
      | true =>
        rw [Bool.true_or, Bool.true_or, Bool.not_true, Bool.false_and]
        simp only [zaa, zab, zac, zad, zae, zaf, zag, zah, zai, zaj, zak, zal, zam, zan, zao, zap, zaq, zar, zas, zat, zau, zav, zaw, zax, zay, zaz, zba, zbb, zbc, zbd, zbe, zbf, zbg, zbh, zbi, zbj, zbk, zbl, zbm, zbn, zbo, zbp, zbq, Nat.reduceBEq, Bool.or_self, Bool.or_false, Bool.or_true, Bool.and_true, Bool.and_false, Bool.true_and, Bool.false_and, Option.isNone_none, Option.isNone_some, Option.isSome_some, Option.isSome_none, zbr, zbs, zbt, zbu, zbv, zbw, zbx, zby, zbz, zca, zcb, zcc, zcd, zce, zcf, zcg, zch, zci, zcj, zck, zcl, zcm, zcn, zco, zcp, zcq, zcr, zcs, zct, zcu, zcv, zcw, zcx, zcy, zcz, zda, zdb, zdc, zdd, zde, zdf, zdg, zdh, zdi, zdj, zdk, zdl, zdm, zdn, zdo, zdp, zdq, zdr, zds, Option.getD_some, Option.getD_none, zfg, zfh, zfi, zfj, zfk, zfl, zfm, zfn, Option.map_some, Option.map_none, Option.bind_some, List.map_cons, List.map_nil, List.cons_append, List.nil_append, ↓reduceIte, Nat.reduceEqDiff, Nat.reduceAdd, decide_true, decide_false, Bool.true_eq_false, Bool.false_eq_true, env0, List.getElem?_cons_zero, List.getElem?_cons_succ, zdt, zdu, zdv, zdw, zdx, zdy, zdz, zea, ia22, ld31, zeb, zec, zet, List.toList_toArray, len9, ix9, zeu, zev, zew, zex, zey, zed, zee, zef, zeg, zeh, zei, zej, zek, zel, zem, zen, zeo, zep, fa_0, fa_1, zeq, bd_0, bd_2, zer, fd_1, zes, Nat.zero_add, e1, j1, e3, faT_0, faT_2, faT_3, ldT_0, ldT_2, ldT_3, i_neqV, x1, hR]
        exact finish_b _ _ _ _ _ _ _ (by first | (simp only [zfn, ↓reduceIte, Nat.reduceEqDiff]; done) | (simp only [zfn, ↓reduceIte, Nat.reduceEqDiff]; rfl)) rfl
      | false =>
        have hx : ((k != 1) && !z) = true ∨ ((k != 1) && !z) = false := by cases ((k != 1) && !z) <;> simp
        rcases hx with hx | hx
        · rw [hx, Bool.or_true, Bool.true_or, Bool.not_true, Bool.false_and]
          rw [Bool.and_eq_true] at hx
          have hz : z = false := by cases z <;> simp_all
          subst hz
          simp only [zaa, zab, zac, zad, zae, zaf, zag, zah, zai, zaj, zak, zal, zam, zan, zao, zap, zaq, zar, zas, zat, zau, zav, zaw, zax, zay, zaz, zba, zbb, zbc, zbd, zbe, zbf, zbg, zbh, zbi, zbj, zbk, zbl, zbm, zbn, zbo, zbp, zbq, Nat.reduceBEq, Bool.or_self, Bool.or_false, Bool.or_true, Bool.and_true, Bool.and_false, Bool.true_and, Bool.false_and, Option.isNone_none, Option.isNone_some, Option.isSome_some, Option.isSome_none, zbr, zbs, zbt, zbu, zbv, zbw, zbx, zby, zbz, zca, zcb, zcc, zcd, zce, zcf, zcg, zch, zci, zcj, zck, zcl, zcm, zcn, zco, zcp, zcq, zcr, zcs, zct, zcu, zcv, zcw, zcx, zcy, zcz, zda, zdb, zdc, zdd, zde, zdf, zdg, zdh, zdi, zdj, zdk, zdl, zdm, zdn, zdo, zdp, zdq, zdr, zds, Option.getD_some, Option.getD_none, zfg, zfh, zfi, zfj, zfk, zfl, zfm, zfn, Option.map_some, Option.map_none, Option.bind_some, List.map_cons, List.map_nil, List.cons_append, List.nil_append, ↓reduceIte, Nat.reduceEqDiff, Nat.reduceAdd, decide_true, decide_false, Bool.true_eq_false, Bool.false_eq_true, env0, List.getElem?_cons_zero, List.getElem?_cons_succ, zdt, zdu, zdv, zdw, zdx, zdy, zdz, zea, ia22, ld31, zeb, zec, zet, List.toList_toArray, len9, ix9, zeu, zev, zew, zex, zey, zed, zee, zef, zeg, zeh, zei, zej, zek, zel, zem, zen, zeo, zep, fa_0, fa_1, zeq, bd_0, bd_2, zer, fd_1, zes, Nat.zero_add, e1, j1, e3, faT_0, faT_2, faT_3, ldT_0, ldT_2, ldT_3, i_neqV, x1, hx.1, unA_not', Bool.not_false, hR]
          exact finish_b _ _ _ _ _ _ _ (by first | (simp only [zfn, ↓reduceIte, Nat.reduceEqDiff]; done) | (simp only [zfn, ↓reduceIte, Nat.reduceEqDiff]; rfl)) rfl
        · rw [x1, hx, Bool.or_self, Bool.false_or] at hN
          rw [hx, Bool.or_self, Bool.false_or]
          cases x4 : (k != 2) <;> cases x5 : (k != 6) <;> cases x6 : (s == []) <;> rw [x4, x5, x6] at hN <;> simp only [Bool.true_and, Bool.false_and, Bool.and_true, Bool.and_false, Bool.not_true, Bool.not_false] at hN ⊢ <;> cases x2 : (k != 1) <;> cases z <;> first
            | (exfalso; rw [x2] at hx; exact absurd hx (by decide))
            | (simp only [zaa, zab, zac, zad, zae, zaf, zag, zah, zai, zaj, zak, zal, zam, zan, zao, zap, zaq, zar, zas, zat, zau, zav, zaw, zax, zay, zaz, zba, zbb, zbc, zbd, zbe, zbf, zbg, zbh, zbi, zbj, zbk, zbl, zbm, zbn, zbo, zbp, zbq, Nat.reduceBEq, Bool.or_self, Bool.or_false, Bool.or_true, Bool.and_true, Bool.and_false, Bool.true_and, Bool.false_and, Option.isNone_none, Option.isNone_some, Option.isSome_some, Option.isSome_none, zbr, zbs, zbt, zbu, zbv, zbw, zbx, zby, zbz, zca, zcb, zcc, zcd, zce, zcf, zcg, zch, zci, zcj, zck, zcl, zcm, zcn, zco, zcp, zcq, zcr, zcs, zct, zcu, zcv, zcw, zcx, zcy, zcz, zda, zdb, zdc, zdd, zde, zdf, zdg, zdh, zdi, zdj, zdk, zdl, zdm, zdn, zdo, zdp, zdq, zdr, zds, Option.getD_some, Option.getD_none, zfg, zfh, zfi, zfj, zfk, zfl, zfm, zfn, Option.map_some, Option.map_none, Option.bind_some, List.map_cons, List.map_nil, List.cons_append, List.nil_append, ↓reduceIte, Nat.reduceEqDiff, Nat.reduceAdd, decide_true, decide_false, Bool.true_eq_false, Bool.false_eq_true, env0, List.getElem?_cons_zero, List.getElem?_cons_succ, zdt, zdu, zdv, zdw, zdx, zdy, zdz, zea, ia22, ld31, zeb, zec, zet, List.toList_toArray, len9, ix9, zeu, zev, zew, zex, zey, zed, zee, zef, zeg, zeh, zei, zej, zek, zel, zem, zen, zeo, zep, fa_0, fa_1, zeq, bd_0, bd_2, zer, fd_1, zes, Nat.zero_add, e1, j1, e3, faT_0, faT_2, faT_3, ldT_0, ldT_2, ldT_3, i_neqV, x1, x2, x4, x5, x6, unA_not', Bool.not_false, Bool.not_true, hR]
               exact finish_b _ _ _ _ _ _ _ (by first | (simp only [zfn, ↓reduceIte, Nat.reduceEqDiff]; done) | (simp only [zfn, ↓reduceIte, Nat.reduceEqDiff]; rfl)) rfl)
            | (simp only [zaa, zab, zac, zad, zae, zaf, zag, zah, zai, zaj, zak, zal, zam, zan, zao, zap, zaq, zar, zas, zat, zau, zav, zaw, zax, zay, zaz, zba, zbb, zbc, zbd, zbe, zbf, zbg, zbh, zbi, zbj, zbk, zbl, zbm, zbn, zbo, zbp, zbq, Nat.reduceBEq, Bool.or_self, Bool.or_false, Bool.or_true, Bool.and_true, Bool.and_false, Bool.true_and, Bool.false_and, Option.isNone_none, Option.isNone_some, Option.isSome_some, Option.isSome_none, zbr, zbs, zbt, zbu, zbv, zbw, zbx, zby, zbz, zca, zcb, zcc, zcd, zce, zcf, zcg, zch, zci, zcj, zck, zcl, zcm, zcn, zco, zcp, zcq, zcr, zcs, zct, zcu, zcv, zcw, zcx, zcy, zcz, zda, zdb, zdc, zdd, zde, zdf, zdg, zdh, zdi, zdj, zdk, zdl, zdm, zdn, zdo, zdp, zdq, zdr, zds, Option.getD_some, Option.getD_none, zfg, zfh, zfi, zfj, zfk, zfl, zfm, zfn, Option.map_some, Option.map_none, Option.bind_some, List.map_cons, List.map_nil, List.cons_append, List.nil_append, ↓reduceIte, Nat.reduceEqDiff, Nat.reduceAdd, decide_true, decide_false, Bool.true_eq_false, Bool.false_eq_true, env0, List.getElem?_cons_zero, List.getElem?_cons_succ, zdt, zdu, zdv, zdw, zdx, zdy, zdz, zea, ia22, ld31, zeb, zec, zet, List.toList_toArray, len9, ix9, zeu, zev, zew, zex, zey, zed, zee, zef, zeg, zeh, zei, zej, zek, zel, zem, zen, zeo, zep, fa_0, fa_1, zeq, bd_0, bd_2, zer, fd_1, zes, Nat.zero_add, e1, j1, e3, faT_0, faT_2, faT_3, ldT_0, ldT_2, ldT_3, i_neqV, x1, x2, x4, x5, x6, unA_not', Bool.not_false, Bool.not_true, hR]
               exact hN _ _ ⟨(by first | (simp only [zfn, ↓reduceIte, Nat.reduceEqDiff, e1]; done) | (simp only [zfn, ↓reduceIte, Nat.reduceEqDiff, e1]; rfl)), (by first | (simp only [zfn, ↓reduceIte, Nat.reduceEqDiff, j1']; done) | (simp only [zfn, ↓reduceIte, Nat.reduceEqDiff, j1']; rfl)), trivial⟩)
    · intro K2 hN2 hR2 hE2
      unfold zeroB at hN2
      have e : ((l.length : Int) == 0) = decide (l.length = 0) := by rw [Bool.eq_iff_iff, beq_iff_eq, decide_eq_true_eq]; omega
      cases hy : decide (l.length = 0) with
      | true =>
        rw [hy] at e hN2
        simp only [zaa, zab, zac, zad, zae, zaf, zag, zah, zai, zaj, zak, zal, zam, zan, zao, zap, zaq, zar, zas, zat, zau, zav, zaw, zax, zay, zaz, zba, zbb, zbc, zbd, zbe, zbf, zbg, zbh, zbi, zbj, zbk, zbl, zbm, zbn, zbo, zbp, zbq, Nat.reduceBEq, Bool.or_self, Bool.or_false, Bool.or_true, Bool.and_true, Bool.and_false, Bool.true_and, Bool.false_and, Option.isNone_none, Option.isNone_some, Option.isSome_some, Option.isSome_none, zbr, zbs, zbt, zbu, zbv, zbw, zbx, zby, zbz, zca, zcb, zcc, zcd, zce, zcf, zcg, zch, zci, zcj, zck, zcl, zcm, zcn, zco, zcp, zcq, zcr, zcs, zct, zcu, zcv, zcw, zcx, zcy, zcz, zda, zdb, zdc, zdd, zde, zdf, zdg, zdh, zdi, zdj, zdk, zdl, zdm, zdn, zdo, zdp, zdq, zdr, zds, Option.getD_some, Option.getD_none, zfg, zfh, zfi, zfj, zfk, zfl, zfm, zfn, Option.map_some, Option.map_none, Option.bind_some, List.map_cons, List.map_nil, List.cons_append, List.nil_append, ↓reduceIte, Nat.reduceEqDiff, Nat.reduceAdd, decide_true, decide_false, Bool.true_eq_false, Bool.false_eq_true, env0, List.getElem?_cons_zero, List.getElem?_cons_succ, zdt, zdu, zdv, zdw, zdx, zdy, zdz, zea, ia22, ld31, zeb, zec, zet, List.toList_toArray, len9, ix9, zeu, zev, zew, zex, zey, zed, zee, zef, zeg, zeh, zei, zej, zek, zel, zem, zen, zeo, zep, fa_0, fa_1, zeq, bd_0, bd_2, zer, fd_1, zes, Nat.zero_add, encT, cellsT, faT_1, faN_0, faN_1, ldB_1, ldB_2, Nat.reduceAdd, i_eqlV, e, unA_not']
        exact hN2 _ _ ⟨(by first | (simp only [zfn, ↓reduceIte, Nat.reduceEqDiff]; done) | (simp only [zfn, ↓reduceIte, Nat.reduceEqDiff]; rfl)), by simp only [cellsT]; exact (by first | (simp only [zfn, ↓reduceIte, Nat.reduceEqDiff]; done) | (simp only [zfn, ↓reduceIte, Nat.reduceEqDiff]; rfl)), by simp only [zfn, ↓reduceIte, Nat.reduceEqDiff, Bool.and_true]⟩
      | false =>
        rw [hy] at e hN2
        simp only [zaa, zab, zac, zad, zae, zaf, zag, zah, zai, zaj, zak, zal, zam, zan, zao, zap, zaq, zar, zas, zat, zau, zav, zaw, zax, zay, zaz, zba, zbb, zbc, zbd, zbe, zbf, zbg, zbh, zbi, zbj, zbk, zbl, zbm, zbn, zbo, zbp, zbq, Nat.reduceBEq, Bool.or_self, Bool.or_false, Bool.or_true, Bool.and_true, Bool.and_false, Bool.true_and, Bool.false_and, Option.isNone_none, Option.isNone_some, Option.isSome_some, Option.isSome_none, zbr, zbs, zbt, zbu, zbv, zbw, zbx, zby, zbz, zca, zcb, zcc, zcd, zce, zcf, zcg, zch, zci, zcj, zck, zcl, zcm, zcn, zco, zcp, zcq, zcr, zcs, zct, zcu, zcv, zcw, zcx, zcy, zcz, zda, zdb, zdc, zdd, zde, zdf, zdg, zdh, zdi, zdj, zdk, zdl, zdm, zdn, zdo, zdp, zdq, zdr, zds, Option.getD_some, Option.getD_none, zfg, zfh, zfi, zfj, zfk, zfl, zfm, zfn, Option.map_some, Option.map_none, Option.bind_some, List.map_cons, List.map_nil, List.cons_append, List.nil_append, ↓reduceIte, Nat.reduceEqDiff, Nat.reduceAdd, decide_true, decide_false, Bool.true_eq_false, Bool.false_eq_true, env0, List.getElem?_cons_zero, List.getElem?_cons_succ, zdt, zdu, zdv, zdw, zdx, zdy, zdz, zea, ia22, ld31, zeb, zec, zet, List.toList_toArray, len9, ix9, zeu, zev, zew, zex, zey, zed, zee, zef, zeg, zeh, zei, zej, zek, zel, zem, zen, zeo, zep, fa_0, fa_1, zeq, bd_0, bd_2, zer, fd_1, zes, Nat.zero_add, encT, cellsT, faT_1, faN_0, faN_1, ldB_1, ldB_2, Nat.reduceAdd, i_eqlV, e, unA_not']
        exact hN2 _ _ ⟨(by first | (simp only [zfn, ↓reduceIte, Nat.reduceEqDiff]; done) | (simp only [zfn, ↓reduceIte, Nat.reduceEqDiff]; rfl)), by simp only [cellsT]; exact (by first | (simp only [zfn, ↓reduceIte, Nat.reduceEqDiff]; done) | (simp only [zfn, ↓reduceIte, Nat.reduceEqDiff]; rfl)), by simp only [zfn, ↓reduceIte, Nat.reduceEqDiff, Bool.and_false]⟩
end Go.Ab

/- What the abstract run gives, it gives with more rounds and more depth too. No conditions. -/
namespace Go.Ab
section
variable {P : Program} {cfg : Cfg} {call call' : FuncId → List Arg → Option Out}
def Less (call call' : FuncId → List Arg → Option Out) : Prop := ∀ f as1 r, call f as1 = some r → call' f as1 = some r
theorem callA_mono (h : Less call call') {d : Nat} {s : St} {f : FuncId} {vs : List AV} {r : AV × St} (hc : callA cfg call d s f vs = some r) : callA cfg call' d s f vs = some r := by
  unfold callA at hc ⊢
  cases ha : argsA cfg f s 0 vs with
  | none => rw [ha] at hc; cases hc
  | some as1 =>
    rw [ha] at hc
    simp only [Option.bind_some] at hc ⊢
    split at hc
    · rename_i hg
      rw [if_pos hg]
      cases hcc : call f as1 with
      | none => rw [hcc] at hc; cases hc
      | some o => rw [hcc] at hc; rw [h _ _ _ hcc]; exact hc
    · cases hc
theorem callQ_mono (h : Less call call') {f : FuncId} {vs : List AV} {r : AV} (hc : callQ call f vs = some r) : callQ call' f vs = some r := by
  unfold callQ at hc ⊢
  split at hc
  · rename_i hg
    rw [if_pos hg]
    cases hcc : call f (vs.map .tree) with
    | none => rw [hcc] at hc; cases hc
    | some o => rw [hcc] at hc; rw [h _ _ _ hcc]; exact hc
  · rename_i hg
    rw [if_neg hg]
    split at hc
    · rename_i hg2
      rw [if_pos hg2]
      cases hcc : call f (vs.map fun v => .tree (loosen v)) with
      | none => rw [hcc] at hc; cases hc
      | some o => rw [hcc] at hc; rw [h _ _ _ hcc]; exact hc
    · cases hc
theorem opA_mono (h : Less call call') {q : Bool} {o : Oper} {d : Nat} {env : Env} {s : St} {r : AV × St} (hc : opA P cfg call q o d env s = some r) : opA P cfg call' q o d env s = some r := by
  obtain ⟨dst, op, ty, pos, af, g⟩ := o
  cases op with
  | call c =>
    obtain ⟨ce, as1, us⟩ := c
    cases ce with
    | value f =>
      simp only [opA] at hc ⊢
      split at hc
      · split at hc
        · rename_i hq
          rw [if_pos hq]
          split at hc
          · rename_i h1
            rw [if_pos h1]
            split at hc
            · rename_i h2
              rw [if_pos h2]
              exact callA_mono h hc
            · cases hc
          · rename_i h1
            rw [if_neg h1]
            obtain ⟨v, hcc, hv⟩ := Option.map_eq_some_iff.mp hc
            rw [callQ_mono h hcc]
            exact congrArg some hv
        · rename_i hq
          rw [if_neg hq]
          exact callA_mono h hc
      · cases hc
    | builtin b => cases b <;> exact hc
    | _ => exact hc
  | _ => exact hc
theorem opsA_mono (h : Less call call') {q : Bool} {ops : Array Oper} : ∀ (l : List Oper) {env : Env} {s : St} {r : Env × St}, opsA P cfg call q ops l env s = some r → opsA P cfg call' q ops l env s = some r
  | [], env, s, r, hc => hc
  | o :: l, env, s, r, hc => by
    simp only [opsA] at hc ⊢
    cases hw : wantA ops o env with
    | none => rw [hw] at hc; cases hc
    | some b =>
      rw [hw] at hc
      cases b with
      | false => exact opsA_mono h l hc
      | true =>
        simp only at hc ⊢
        cases ho : opA P cfg call q o (o.dst.getD 0) env s with
        | none => rw [ho] at hc; cases hc
        | some x =>
          rw [ho] at hc
          rw [opA_mono h ho]
          simp only [Option.bind_some] at hc ⊢
          exact opsA_mono h l hc
def LessK (K K' : Kont) : Prop := ∀ e env s r, K e env s = some r → K' e env s = some r
theorem loopA_mono {b b' : Kont → Env → St → Option Out} (hb : ∀ K K', LessK K K' → ∀ env s r, b K env s = some r → b' K' env s = some r) {K K' : Kont} (hK : LessK K K') :
    ∀ (n n' : Nat), n ≤ n' → ∀ env s r, loopA b K n env s = some r → loopA b' K' n' env s = some r
  | 0, n', _, env, s, r, hc => by cases hc
  | n + 1, n', hn, env, s, r, hc => by
    obtain ⟨m, rfl⟩ : ∃ m, n' = m + 1 := ⟨n' - 1, by omega⟩
    simp only [loopA] at hc ⊢
    refine hb _ _ (fun e env s r h => ?_) _ _ _ hc
    cases e with
    | normal => exact loopA_mono hb hK n m (by omega) _ _ _ h
    | exit i => exact hK _ _ _ _ h
    | ret => exact hK _ _ _ _ h
theorem den_mono (h : Less call call') {n n' : Nat} (hn : n ≤ n') : ∀ (c : Code) {K K' : Kont}, LessK K K' → ∀ {env : Env} {s : St} {r : Out}, den P cfg call n c K env s = some r → den P cfg call' n' c K' env s = some r
  | .skip, K, K', hK, env, s, r, hc => hK _ _ _ _ hc
  | .label _, K, K', hK, env, s, r, hc => hK _ _ _ _ hc
  | .region _ ops draw, K, K', hK, env, s, r, hc => by
    simp only [den] at hc ⊢
    cases ho : opsA P cfg call draw ops ops.toList env (killI cfg.keep draw ops.toList s) with
    | none => rw [ho] at hc; cases hc
    | some x =>
      rw [ho] at hc
      rw [opsA_mono h _ ho]
      exact hK _ _ _ _ hc
  | .seq a b, K, K', hK, env, s, r, hc => by
    simp only [den] at hc ⊢
    refine den_mono h hn a (fun e env s r hh => ?_) hc
    cases e with
    | normal => exact den_mono h hn b hK hh
    | exit i => exact hK _ _ _ _ hh
    | ret => exact hK _ _ _ _ hh
  | .cond c a b, K, K', hK, env, s, r, hc => by
    simp only [den] at hc ⊢
    cases hv : ev env c <;> rw [hv] at hc <;> try cases hc
    rename_i x
    cases x with
    | true => exact den_mono h hn a hK hc
    | false => exact den_mono h hn b hK hc
  | .scope a, K, K', hK, env, s, r, hc => by
    simp only [den] at hc ⊢
    exact den_mono h hn a hK hc
  | .block id a, K, K', hK, env, s, r, hc => by
    simp only [den] at hc ⊢
    refine den_mono h hn a (fun e env s r hh => ?_) hc
    cases e with
    | normal => exact hK _ _ _ _ hh
    | exit i =>
      simp only at hh ⊢
      split at hh
      · rename_i hi; rw [if_pos hi]; exact hK _ _ _ _ hh
      · rename_i hi; rw [if_neg hi]; exact hK _ _ _ _ hh
    | ret => exact hK _ _ _ _ hh
  | .loop a, K, K', hK, env, s, r, hc => by
    simp only [den] at hc ⊢
    exact loopA_mono (b := den P cfg call n a) (b' := den P cfg call' n' a) (fun K K' hK env s r hh => den_mono h hn a hK hh) hK n n' hn _ _ _ hc
  | .exit id, K, K', hK, env, s, r, hc => hK _ _ _ _ hc
  | .ret, K, K', hK, env, s, r, hc => hK _ _ _ _ hc
  | .rangeFunc .., K, K', hK, env, s, r, hc => by cases hc
  | .goto _, K, K', hK, env, s, r, hc => by cases hc
  | .refuse _, K, K', hK, env, s, r, hc => by cases hc
theorem evalFn_mono {n n' : Nat} (hn : n ≤ n') : ∀ (d d' : Nat), d ≤ d' → Less (evalFn P cfg n d) (evalFn P cfg n' d')
  | 0, _, _, f, as1, r, hc => by cases hc
  | d + 1, d', hd, f, as1, r, hc => by
    obtain ⟨m, rfl⟩ : ∃ m, d' = m + 1 := ⟨d' - 1, by omega⟩
    simp only [evalFn] at hc ⊢
    cases hp : cfg.prim f as1 with
    | some o => rw [hp] at hc; exact hc
    | none =>
      rw [hp] at hc
      simp only at hc ⊢
      cases hf : P.funcs[f]? with
      | none => rw [hf] at hc; cases hc
      | some fn =>
        rw [hf] at hc
        simp only at hc ⊢
        cases hb : fn.body with
        | none => rw [hb] at hc; cases hc
        | some c =>
          rw [hb] at hc
          simp only at hc ⊢
          split at hc
          · rename_i hg
            rw [if_pos hg]
            exact den_mono (evalFn_mono hn d m (by omega)) hn _ (fun _ _ _ _ hh => hh) hc
          · cases hc
end
end Go.Ab
