/- term.Check, term.Nodes. Conditions: limbs in range; so many nodes at most. -/
import Derived.Test.YtaifnpbgamookaaDoorAbtT9
namespace Go.Ab
open Go.Proofs
set_option maxRecDepth 100000
set_option linter.unusedSimpArgs false

theorem zeroI : zeroOf Tryd.prog 3 = some [.int .i64 0] := by kernel_rfl
theorem tCheck_eq (n : Nat) (hn : 100 ≤ n) (hn2 : n ≤ 1000000) (d : Nat) (t : T) (hd : htT t ≤ d) (hnd : nodT t < n) (hw : wfT t) :
    evalFn Tryd.prog cfg0 n (d+4) 10 [.tree (encT t)] = some (.tree (.bool (chkT t 1 2000).1), [[]]) := by
  rw [evalFn_go _ Tryd.func10 (by unfold Tryd.f10; rfl) (by unfold Tryd.f10; decide) (Nat.le_of_ble_eq_true (by unfold Tryd.f10; rfl)) (by kernel_rfl)]
  have cc := fun D => callA_tip (cfg := cfg0) (D := D) (tcheck_eq n hn hn2 d t 1 2000 hd hnd hw (by decide) (by decide) (by decide) (by decide))
  simp only [zaa, zab, zac, zad, zae, zaf, zag, zah, zai, zaj, zak, zal, zam, zan, zao, zap, zaq, zar, zas, zat, zau, zav, zaw, zax, zay, zaz, zba, zbb, zbc, zbd, zbe, zbf, zbg, zbh, zbi, zbj, Nat.reduceBEq, Bool.or_self, Bool.or_false, Bool.or_true, Bool.and_true, Bool.and_false, Bool.true_and, Bool.false_and, Option.isNone_none, Option.isNone_some, Option.isSome_some, Option.isSome_none, zbk, zbl, zbm, zbn, zbo, zbp, zbq, zbr, zbs, zbt, zbu, zbv, zbw, zbx, zby, zbz, zca, zcb, zcc, zcd, zce, zcf, zcg, zch, zci, zcj, zck, zcl, zcm, zcn, zco, zcp, zcq, zcr, zcs, zct, zcu, zcv, zcw, zcx, zcy, zcz, zda, zdb, zdc, zdd, zde, zdf, Option.getD_some, Option.getD_none, zet, zeu, zev, zew, zex, zey, zez, zfa, Option.map_some, Option.map_none, Option.bind_some, List.map_cons, List.map_nil, List.cons_append, List.nil_append, ↓reduceIte, Nat.reduceEqDiff, Nat.reduceAdd, decide_true, decide_false, Bool.true_eq_false, Bool.false_eq_true, env0, List.getElem?_cons_zero, List.getElem?_cons_succ, zdq, zdr, zds, zdt, zdu, zdv, zdw, zdx, zdy, zdz, zea, zeb, zec, fa_0, fa_1, zed, bd_0, bd_2, zee, fd_1, zef, Nat.zero_add, encT, zeroI, st_I, stI_buf, ldT_u, cc]
  exact finish_b _ _ _ _ _ _ _ (by first | (simp only [zfa, ↓reduceIte, Nat.reduceEqDiff]; done) | (simp only [zfa, ↓reduceIte, Nat.reduceEqDiff]; rfl)) rfl
set_option maxHeartbeats 8000000 in
theorem tNodes_eq (n : Nat) (hn2 : n ≤ 1000000) : ∀ (d : Nat) (t : T), htT t ≤ d → nodT t < n →
    evalFn Tryd.prog cfg0 n d 11 [.tree (encT t)] = some (.tree (.int .i64 (nodT t : Int)), [[]])
  | 0, t, hd, hnd => by obtain ⟨k, b, lg, l, s, m, kg, ks⟩ := t; simp only [htT] at hd; omega
  | d + 1, t, hd, hnd => by
    have IH := tNodes_eq n hn2 d
    rw [evalFn_go _ Tryd.func11 (by unfold Tryd.f11; rfl) (by unfold Tryd.f11; decide) (Nat.le_of_ble_eq_true (by unfold Tryd.f11; rfl)) (by kernel_rfl)]
    obtain ⟨k, b, lg, l, s, m, kg, ks⟩ := t
    simp only [htT] at hd
    simp only [nodT] at hnd ⊢
    simp only [zaa, zab, zac, zad, zae, zaf, zag, zah, zai, zaj, zak, zal, zam, zan, zao, zap, zaq, zar, zas, zat, zau, zav, zaw, zax, zay, zaz, zba, zbb, zbc, zbd, zbe, zbf, zbg, zbh, zbi, zbj, Nat.reduceBEq, Bool.or_self, Bool.or_false, Bool.or_true, Bool.and_true, Bool.and_false, Bool.true_and, Bool.false_and, Option.isNone_none, Option.isNone_some, Option.isSome_some, Option.isSome_none, zbk, zbl, zbm, zbn, zbo, zbp, zbq, zbr, zbs, zbt, zbu, zbv, zbw, zbx, zby, zbz, zca, zcb, zcc, zcd, zce, zcf, zcg, zch, zci, zcj, zck, zcl, zcm, zcn, zco, zcp, zcq, zcr, zcs, zct, zcu, zcv, zcw, zcx, zcy, zcz, zda, zdb, zdc, zdd, zde, zdf, Option.getD_some, Option.getD_none, zet, zeu, zev, zew, zex, zey, zez, zfa, Option.map_some, Option.map_none, Option.bind_some, List.map_cons, List.map_nil, List.cons_append, List.nil_append, ↓reduceIte, Nat.reduceEqDiff, Nat.reduceAdd, decide_true, decide_false, Bool.true_eq_false, Bool.false_eq_true, env0, List.getElem?_cons_zero, List.getElem?_cons_succ, zdq, zdr, zds, zdt, zdu, zdv, zdw, zdx, zdy, zdz, zea, zeb, zec, fa_0, fa_1, zed, bd_0, bd_2, zee, fd_1, zef, Nat.zero_add, encT, cellsT, faT_4, ldT_4, lenTk, den_loop]
    refine loop_ends (X := Nat) (fun i env s' => env 7 = .sl (cellsK ks) ks.length (gr kg) ∧ env 8 = .int .i64 (ks.length : Int) ∧ env 9 = .int .i64 (i : Int) ∧ env 3 = .int .i64 ((nodK (ks.take i) + 1 : Nat) : Int) ∧ i ≤ ks.length) (fun i => ks.length - i) (fun _ => (.tree (.int .i64 ((nodK ks + 1 : Nat) : Int)), [[]])) ?_ n 0 _ _ (by have := nodK_len ks; omega) ⟨(by first | (simp only [zfa, ↓reduceIte, Nat.reduceEqDiff]; done) | (simp only [zfa, ↓reduceIte, Nat.reduceEqDiff]; rfl)), (by first | (simp only [zfa, ↓reduceIte, Nat.reduceEqDiff]; done) | (simp only [zfa, ↓reduceIte, Nat.reduceEqDiff]; rfl)), (by first | (simp only [zfa, ↓reduceIte, Nat.reduceEqDiff]; done) | (simp only [zfa, ↓reduceIte, Nat.reduceEqDiff]; rfl)), (by first | (simp only [zfa, ↓reduceIte, Nat.reduceEqDiff]; done) | (simp only [zfa, ↓reduceIte, Nat.reduceEqDiff]; rfl)), Nat.zero_le _⟩
    rintro rr i hrr ih2 env st ⟨e7, e8, e9, e3, hi⟩
    cases hdr : ks.drop i with
    | nil =>
      have hil : i = ks.length := by have := congrArg List.length hdr; simp only [List.length_drop, List.length_nil] at this; omega
      subst hil
      rw [List.take_length] at e3
      have q1 : ¬ ((ks.length : Int) < (ks.length : Int)) := by omega
      simp only [zaa, zab, zac, zad, zae, zaf, zag, zah, zai, zaj, zak, zal, zam, zan, zao, zap, zaq, zar, zas, zat, zau, zav, zaw, zax, zay, zaz, zba, zbb, zbc, zbd, zbe, zbf, zbg, zbh, zbi, zbj, Nat.reduceBEq, Bool.or_self, Bool.or_false, Bool.or_true, Bool.and_true, Bool.and_false, Bool.true_and, Bool.false_and, Option.isNone_none, Option.isNone_some, Option.isSome_some, Option.isSome_none, zbk, zbl, zbm, zbn, zbo, zbp, zbq, zbr, zbs, zbt, zbu, zbv, zbw, zbx, zby, zbz, zca, zcb, zcc, zcd, zce, zcf, zcg, zch, zci, zcj, zck, zcl, zcm, zcn, zco, zcp, zcq, zcr, zcs, zct, zcu, zcv, zcw, zcx, zcy, zcz, zda, zdb, zdc, zdd, zde, zdf, Option.getD_some, Option.getD_none, zet, zeu, zev, zew, zex, zey, zez, zfa, Option.map_some, Option.map_none, Option.bind_some, List.map_cons, List.map_nil, List.cons_append, List.nil_append, ↓reduceIte, Nat.reduceEqDiff, Nat.reduceAdd, decide_true, decide_false, Bool.true_eq_false, Bool.false_eq_true, zdg, zdh, zdi, zdj, zdk, zdl, zdm, zdn, ia22, ld31, zdo, zdp, zdq, zdr, zds, zdt, zdu, zdv, zdw, zdx, zdy, zdz, zea, zeb, zec, fa_0, fa_1, zed, bd_0, bd_2, zee, fd_1, zef, Nat.zero_add, e7, e8, e9, e3, q1]
      exact finish_i _ _ _ _ _ _ _ (by first | (simp only [zfa, ↓reduceIte, Nat.reduceEqDiff]; done) | (simp only [zfa, ↓reduceIte, Nat.reduceEqDiff]; rfl)) rfl
    | cons kid r =>
      have hil : i < ks.length := by have := congrArg List.length hdr; simp only [List.length_drop, List.length_cons] at this; omega
      have kh := kids_ht ks i kid r hdr
      have kn := kids_nod ks i kid r hdr
      have ht : ks.take (i + 1) = ks.take i ++ [kid] := by
        rw [List.take_add_one]
        congr 1
        have : ks[i]? = some kid := by rw [← Nat.add_zero i, ← List.getElem?_drop, hdr]; rfl
        rw [this]; rfl
      have hle : nodK (ks.take (i + 1)) ≤ nodK ks := nodK_take ks (i + 1)
      have hsum : nodK (ks.take (i + 1)) = nodK (ks.take i) + nodT kid := by
        rw [ht, nodK_app]; simp only [nodK]; omega
      have q1 : (i : Int) < (ks.length : Int) := by omega
      have f5 := i_add Tryd.prog 3 (i : Int) 1 (by omega) (by have := nodK_len ks; omega)
      have f6 := i_add Tryd.prog 3 ((nodK (ks.take i) + 1 : Nat) : Int) (nodT kid : Int) (by omega) (by omega)
      have cc := fun D st => callA_trees (cfg := cfg0) (d := D) (s := st) (f := 11) (vs := [encT kid]) rfl (IH kid (by omega) (by omega))
      simp only [encT] at cc
      have ia := fun st => ia_K st ks (gr kg) i hil
      rw [hdr] at ia
      have ld := fun st => ld_K st kid r
      simp only [encT] at ld
      simp only [zaa, zab, zac, zad, zae, zaf, zag, zah, zai, zaj, zak, zal, zam, zan, zao, zap, zaq, zar, zas, zat, zau, zav, zaw, zax, zay, zaz, zba, zbb, zbc, zbd, zbe, zbf, zbg, zbh, zbi, zbj, Nat.reduceBEq, Bool.or_self, Bool.or_false, Bool.or_true, Bool.and_true, Bool.and_false, Bool.true_and, Bool.false_and, Option.isNone_none, Option.isNone_some, Option.isSome_some, Option.isSome_none, zbk, zbl, zbm, zbn, zbo, zbp, zbq, zbr, zbs, zbt, zbu, zbv, zbw, zbx, zby, zbz, zca, zcb, zcc, zcd, zce, zcf, zcg, zch, zci, zcj, zck, zcl, zcm, zcn, zco, zcp, zcq, zcr, zcs, zct, zcu, zcv, zcw, zcx, zcy, zcz, zda, zdb, zdc, zdd, zde, zdf, Option.getD_some, Option.getD_none, zet, zeu, zev, zew, zex, zey, zez, zfa, Option.map_some, Option.map_none, Option.bind_some, List.map_cons, List.map_nil, List.cons_append, List.nil_append, ↓reduceIte, Nat.reduceEqDiff, Nat.reduceAdd, decide_true, decide_false, Bool.true_eq_false, Bool.false_eq_true, zdg, zdh, zdi, zdj, zdk, zdl, zdm, zdn, ia22, ld31, zdo, zdp, zdq, zdr, zds, zdt, zdu, zdv, zdw, zdx, zdy, zdz, zea, zeb, zec, fa_0, fa_1, zed, bd_0, bd_2, zee, fd_1, zef, Nat.zero_add, e7, e8, e9, e3, q1, ia, ld, zeroT, st_Tt, stT_6, ldT_u, f5, f6, cc]
      refine ih2 (i + 1) _ _ (by omega) rfl ⟨(by first | (simp only [zfa, ↓reduceIte, Nat.reduceEqDiff, e7]; done) | (simp only [zfa, ↓reduceIte, Nat.reduceEqDiff, e7]; rfl)), (by first | (simp only [zfa, ↓reduceIte, Nat.reduceEqDiff, e8]; done) | (simp only [zfa, ↓reduceIte, Nat.reduceEqDiff, e8]; rfl)), (by first | (simp only [zfa, ↓reduceIte, Nat.reduceEqDiff]; done) | (simp only [zfa, ↓reduceIte, Nat.reduceEqDiff]; rfl)), ?_, by omega⟩
      simp only [zfa, ↓reduceIte, Nat.reduceEqDiff]
      rw [hsum]
      congr 1
      omega
end Go.Ab
