/- term.check, walked. Conditions: limbs in range; so many nodes at most. -/
import Derived.Test.YtaifnpbgamookaaDoorAbtT8
namespace Go.Ab
open Go.Proofs
set_option maxRecDepth 100000
set_option linter.unusedSimpArgs false

theorem ldI1 (t k : Nat) (a : AV) : ldE Tryd.prog 3 ⟨t, .buf [a]⟩ k 0 = if t = k then some a else none := by
  rw [ldE, cellsE_buf]
  by_cases h : t = k
  · simp [h, partA, shTi]
  · simp [h]
def stI (e : Ent) (p k : Nat) (s : St) (v : AV) : Option St :=
  match e with | ⟨t', .buf xs⟩ => if t' = k then (if 0 < xs.length then some (upd s p ⟨t', .buf (xs.set 0 v)⟩) else none) else none | _ => none
theorem st_I (s : St) (p k : Nat) (kd : IntKind) (z : Int) : storeA Tryd.prog 3 s (.ptr p k 0) (.int kd z) = stI (s p) p k s (.int kd z) := by
  simp only [storeA, settle, Option.bind_some, stI]
  cases h : s p with
  | mk t c => cases c <;> simp [eszTi, cellOk]
theorem stI_buf (t k p : Nat) (s : St) (a v : AV) : stI ⟨t, .buf [a]⟩ p k s v = if t = k then some (upd s p ⟨t, .buf [v]⟩) else none := by
  simp [stI]
theorem sl_K1 (s : St) (h u : T) (g : Grip) : sliceA Tryd.prog 26 s (.sl (cellsK [h, u]) 2 g) none (some (.int .i64 1)) none = some (.sl (cellsK [h]) 1 .loose) := by
  have e : (cellsK [h, u]).length = 2 * 6 := cellsK_len [h, u]
  have e2 : (cellsK [h, u]).take (1 * 6) = cellsK [h] := cellsK_take [h, u] 1
  simp only [sliceA, tkTk, boundA, eszT, Option.isSome_none, Bool.false_eq_true, false_and, if_false, Option.bind_some]
  rw [if_pos (by decide)]
  simp only [Option.bind_some, e, ↓reduceIte]
  have e3 : (Int.toNat 1) * 6 = 1 * 6 := rfl
  rw [e3, e2]
  simp
theorem stT_len (e : Ent) (p k : Nat) (s : St) (ys : List AV) (t : Nat) (xs : List AV) (he : e = ⟨t, .buf xs⟩) (h1 : xs.length = 6) (h2 : ys.length = 6) : stT e p k s ys = if t = k then some (upd s p ⟨t, .buf ys⟩) else none := by
  subst he
  have h3 : splice xs 0 ys = ys := by
    simp only [splice, List.take_zero, List.nil_append, Nat.zero_add, h2]
    rw [List.drop_eq_nil_of_le (by omega), List.append_nil]
  simp only [stT, h1, h2, Nat.le_refl, ↓reduceIte, h3]
theorem st_Tt (s : St) (p k : Nat) (u : T) : storeA Tryd.prog 28 s (.ptr p k 0) (.agg (cellsT u)) = stT (s p) p k s (cellsT u) := by
  obtain ⟨a, b, c, d, e, f, g, h⟩ := u
  simp only [cellsT]
  exact st_T s p k _ _ _ _ _ _
theorem stT_6 (t k p : Nat) (s : St) (a b c d e f : AV) (u : T) : stT ⟨t, .buf [a, b, c, d, e, f]⟩ p k s (cellsT u) = if t = k then some (upd s p ⟨t, .buf (cellsT u)⟩) else none :=
  stT_len _ _ _ _ _ _ _ rfl rfl (cellsT_len u)
theorem stT_u (t k p : Nat) (s : St) (v u : T) : stT ⟨t, .buf (cellsT v)⟩ p k s (cellsT u) = if t = k then some (upd s p ⟨t, .buf (cellsT u)⟩) else none :=
  stT_len _ _ _ _ _ _ _ rfl (cellsT_len v) (cellsT_len u)
theorem ldT_u (t k : Nat) (u : T) : ldE Tryd.prog 28 ⟨t, .buf (cellsT u)⟩ k 0 = if t = k then some (.agg (cellsT u)) else none := by
  obtain ⟨a, b, c, d, e, f, g, h⟩ := u
  simp only [cellsT]
  exact ldT_a _ _ _ _ _ _ _ _
theorem callA_tip {cfg : Cfg} {call : FuncId → List Arg → Option Out} {D : Nat} {f : FuncId} {xs ys o : List AV} {kd : IntKind} {z : Int} {r : AV} (hc : call f [.tree (.agg ys), .tree (.int kd z), .ptr xs 0] = some (.tree r, [[], [], o])) (s : St) (p t : Nat) (hs : s p = ⟨t, .buf xs⟩) :
    callA cfg call D s f [.agg ys, .int kd z, .ptr p t 0] = some (r, upd s p ⟨t, .buf o⟩) := by
  simp [callA, argsA, argA, hs, givesL, givesOf, lendsL, lendsOf, hc, backA, resA]
theorem outs_3 (a b : AV) (xs ys : List AV) (s : St) (h : s 2 = ⟨0, .buf ys⟩) : outsA s 0 [.tree a, .tree b, .ptr xs 0] = some [[], [], ys] := by
  simp only [outsA, h, Option.bind_some, Option.map_some]
set_option maxHeartbeats 16000000 in
/-- term.check gives what is told, at a depth and with a count. -/
theorem tcheck_eq (n : Nat) (hn : 100 ≤ n) (hn2 : n ≤ 1000000) : ∀ (d : Nat) (t0 : T) (deep l0 : Int), htT t0 ≤ d → nodT t0 < n → wfT t0 → 0 ≤ deep → deep ≤ 1000 → 0 ≤ l0 → l0 ≤ 1000000 →
    evalFn Tryd.prog cfg0 n (d+3) 24 [.tree (encT t0), .tree (.int .i64 deep), .ptr [.int .i64 l0] 0] = some (.tree (.bool (chkT t0 deep l0).1), [[], [], [.int .i64 (chkT t0 deep l0).2]])
  | d, t0, deep, l0, hd, hnd, hw, h1, h2, h3, h4 => by
    have IH : ∀ (t : T) (deep l0 : Int), htT t + 1 ≤ d → nodT t < n → wfT t → 0 ≤ deep → deep ≤ 1000 → 0 ≤ l0 → l0 ≤ 1000000 →
      evalFn Tryd.prog cfg0 n (d+2) 24 [.tree (encT t), .tree (.int .i64 deep), .ptr [.int .i64 l0] 0] = some (.tree (.bool (chkT t deep l0).1), [[], [], [.int .i64 (chkT t deep l0).2]]) := by
      intro t deep l0 g1 g2 g3 g4 g5 g6 g7
      match d, g1 with
      | d + 1, g1 => exact tcheck_eq n hn hn2 d t deep l0 (by omega) g2 g3 g4 g5 g6 g7
    rw [evalFn_go _ Tryd.func24 (by unfold Tryd.f24; rfl) (by unfold Tryd.f24; decide) (Nat.le_of_ble_eq_true (by unfold Tryd.f24; rfl)) (by kernel_rfl)]
    simp only [zaa, zab, zac, zad, zae, zaf, zag, zah, zai, zaj, zak, zal, zam, zan, zao, zap, zaq, zar, zas, zat, zau, zav, zaw, zax, zay, zaz, zba, zbb, zbc, zbd, zbe, zbf, zbg, zbh, zbi, zbj, Nat.reduceBEq, Bool.or_self, Bool.or_false, Bool.or_true, Bool.and_true, Bool.and_false, Bool.true_and, Bool.false_and, Option.isNone_none, Option.isNone_some, Option.isSome_some, Option.isSome_none, zbk, zbl, zbm, zbn, zbo, zbp, zbq, zbr, zbs, zbt, zbu, zbv, zbw, zbx, zby, zbz, zca, zcb, zcc, zcd, zce, zcf, zcg, zch, zci, zcj, zck, zcl, zcm, zcn, zco, zcp, zcq, zcr, zcs, zct, zcu, zcv, zcw, zcx, zcy, zcz, zda, zdb, zdc, zdd, zde, zdf, Option.getD_some, Option.getD_none, zet, zeu, zev, zew, zex, zey, zez, zfa, Option.map_some, Option.map_none, Option.bind_some, List.map_cons, List.map_nil, List.cons_append, List.nil_append, ↓reduceIte, Nat.reduceEqDiff, Nat.reduceAdd, decide_true, decide_false, Bool.true_eq_false, Bool.false_eq_true, env0, List.getElem?_cons_zero, List.getElem?_cons_succ, zdq, zdr, zds, zdt, zdu, zdv, zdw, zdx, zdy, zdz, zea, zeb, zec, fa_0, fa_1, zed, bd_0, bd_2, zee, fd_1, zef, Nat.zero_add, encT, den_loop]
    refine loop_ends (X := T × Int) (fun x env s => env 1 = .int .i64 deep ∧ env 2 = .ptr 2 0 0 ∧ env 3 = .ptr 3 1 0 ∧ s 3 = ⟨1, .buf (cellsT x.1)⟩ ∧ s 2 = ⟨0, .buf [.int .i64 x.2]⟩ ∧ htT x.1 ≤ d ∧ nodT x.1 < n ∧ wfT x.1 ∧ 0 ≤ x.2 ∧ x.2 ≤ 1000000) (fun x => nodT x.1) (fun x => (.tree (.bool (chkT x.1 deep x.2).1), [[], [], [.int .i64 (chkT x.1 deep x.2).2]])) ?_ n (t0, l0) _ _ hnd ⟨(by first | (simp only [zfa, ↓reduceIte, Nat.reduceEqDiff]; done) | (simp only [zfa, ↓reduceIte, Nat.reduceEqDiff]; rfl)), (by first | (simp only [zfa, ↓reduceIte, Nat.reduceEqDiff]; done) | (simp only [zfa, ↓reduceIte, Nat.reduceEqDiff]; rfl)), (by first | (simp only [zfa, ↓reduceIte, Nat.reduceEqDiff]; done) | (simp only [zfa, ↓reduceIte, Nat.reduceEqDiff]; rfl)), (by first | (simp only [zfa, ↓reduceIte, Nat.reduceEqDiff]; done) | (simp only [zfa, ↓reduceIte, Nat.reduceEqDiff]; rfl)), (by first | (simp only [zfa, ↓reduceIte, Nat.reduceEqDiff]; done) | (simp only [zfa, ↓reduceIte, Nat.reduceEqDiff]; rfl)), hd, hnd, hw, h3, h4⟩
    rintro rd ⟨t, left⟩ hrd ih env st ⟨e1, e2, e3, j3, j2, hht, hnod, hwf, hl0, hl1⟩
    simp only at j3 j2 hht hnod hwf hl0 hl1
    obtain ⟨k, b, lg, l, s, m, kg, ks⟩ := t
    have hL : Limbs l := by simp only [wfT] at hwf; exact hwf.1
    have f0 := i_sub Tryd.prog 3 left 1 (by omega) (by omega)
    have co := fun D st => callA_trees (cfg := cfg0) (d := D) (s := st) (f := 46) (vs := [encT (.mk k b lg l s m kg ks)]) rfl (own_eq n d hn k b lg l hL s m kg ks)
    simp only [encT, cellsT] at co
    simp only [cellsT] at j3
    by_cases g1 : left - 1 < 0
    · have hr : chkT (.mk k b lg l s m kg ks) deep left = (false, left - 1) := by simp only [chkT]; rw [if_pos (.inl g1)]
      simp only [hr]
      simp only [zaa, zab, zac, zad, zae, zaf, zag, zah, zai, zaj, zak, zal, zam, zan, zao, zap, zaq, zar, zas, zat, zau, zav, zaw, zax, zay, zaz, zba, zbb, zbc, zbd, zbe, zbf, zbg, zbh, zbi, zbj, Nat.reduceBEq, Bool.or_self, Bool.or_false, Bool.or_true, Bool.and_true, Bool.and_false, Bool.true_and, Bool.false_and, Option.isNone_none, Option.isNone_some, Option.isSome_some, Option.isSome_none, zbk, zbl, zbm, zbn, zbo, zbp, zbq, zbr, zbs, zbt, zbu, zbv, zbw, zbx, zby, zbz, zca, zcb, zcc, zcd, zce, zcf, zcg, zch, zci, zcj, zck, zcl, zcm, zcn, zco, zcp, zcq, zcr, zcs, zct, zcu, zcv, zcw, zcx, zcy, zcz, zda, zdb, zdc, zdd, zde, zdf, Option.getD_some, Option.getD_none, zet, zeu, zev, zew, zex, zey, zez, zfa, Option.map_some, Option.map_none, Option.bind_some, List.map_cons, List.map_nil, List.cons_append, List.nil_append, ↓reduceIte, Nat.reduceEqDiff, Nat.reduceAdd, decide_true, decide_false, Bool.true_eq_false, Bool.false_eq_true, zdg, zdh, zdi, zdj, zdk, zdl, zdm, zdn, ia22, ld31, zdo, zdp, zdq, zdr, zds, zdt, zdu, zdv, zdw, zdx, zdy, zdz, zea, zeb, zec, fa_0, fa_1, zed, bd_0, bd_2, zee, fd_1, zef, Nat.zero_add, opA_nilc, nilE_ptr, cellsE_buf, Option.isSome_some, e1, e2, e3, j2, j3, ldI1, st_I, stI_buf, f0, g1]
      exact finish_b _ _ _ _ _ _ _ (by first | (simp only [zfa, ↓reduceIte, Nat.reduceEqDiff]; done) | (simp only [zfa, ↓reduceIte, Nat.reduceEqDiff]; rfl)) (outs_3 _ _ _ _ _ (by first | (simp only [zfa, ↓reduceIte, Nat.reduceEqDiff]; done) | (simp only [zfa, ↓reduceIte, Nat.reduceEqDiff]; rfl)))
    by_cases g2 : deep > 60
    · have hr : chkT (.mk k b lg l s m kg ks) deep left = (false, left - 1) := by simp only [chkT]; rw [if_pos (.inr (.inl g2))]
      simp only [hr]
      simp only [zaa, zab, zac, zad, zae, zaf, zag, zah, zai, zaj, zak, zal, zam, zan, zao, zap, zaq, zar, zas, zat, zau, zav, zaw, zax, zay, zaz, zba, zbb, zbc, zbd, zbe, zbf, zbg, zbh, zbi, zbj, Nat.reduceBEq, Bool.or_self, Bool.or_false, Bool.or_true, Bool.and_true, Bool.and_false, Bool.true_and, Bool.false_and, Option.isNone_none, Option.isNone_some, Option.isSome_some, Option.isSome_none, zbk, zbl, zbm, zbn, zbo, zbp, zbq, zbr, zbs, zbt, zbu, zbv, zbw, zbx, zby, zbz, zca, zcb, zcc, zcd, zce, zcf, zcg, zch, zci, zcj, zck, zcl, zcm, zcn, zco, zcp, zcq, zcr, zcs, zct, zcu, zcv, zcw, zcx, zcy, zcz, zda, zdb, zdc, zdd, zde, zdf, Option.getD_some, Option.getD_none, zet, zeu, zev, zew, zex, zey, zez, zfa, Option.map_some, Option.map_none, Option.bind_some, List.map_cons, List.map_nil, List.cons_append, List.nil_append, ↓reduceIte, Nat.reduceEqDiff, Nat.reduceAdd, decide_true, decide_false, Bool.true_eq_false, Bool.false_eq_true, zdg, zdh, zdi, zdj, zdk, zdl, zdm, zdn, ia22, ld31, zdo, zdp, zdq, zdr, zds, zdt, zdu, zdv, zdw, zdx, zdy, zdz, zea, zeb, zec, fa_0, fa_1, zed, bd_0, bd_2, zee, fd_1, zef, Nat.zero_add, opA_nilc, nilE_ptr, cellsE_buf, Option.isSome_some, e1, e2, e3, j2, j3, ldI1, st_I, stI_buf, f0, g1, g2]
      exact finish_b _ _ _ _ _ _ _ (by first | (simp only [zfa, ↓reduceIte, Nat.reduceEqDiff]; done) | (simp only [zfa, ↓reduceIte, Nat.reduceEqDiff]; rfl)) (outs_3 _ _ _ _ _ (by first | (simp only [zfa, ↓reduceIte, Nat.reduceEqDiff]; done) | (simp only [zfa, ↓reduceIte, Nat.reduceEqDiff]; rfl)))
    cases g3 : ownT (.mk k b lg l s m kg ks) with
    | false =>
      have hr : chkT (.mk k b lg l s m kg ks) deep left = (false, left - 1) := by simp only [chkT]; rw [if_pos (.inr (.inr g3))]
      rw [g3] at co
      simp only [hr]
      simp only [zaa, zab, zac, zad, zae, zaf, zag, zah, zai, zaj, zak, zal, zam, zan, zao, zap, zaq, zar, zas, zat, zau, zav, zaw, zax, zay, zaz, zba, zbb, zbc, zbd, zbe, zbf, zbg, zbh, zbi, zbj, Nat.reduceBEq, Bool.or_self, Bool.or_false, Bool.or_true, Bool.and_true, Bool.and_false, Bool.true_and, Bool.false_and, Option.isNone_none, Option.isNone_some, Option.isSome_some, Option.isSome_none, zbk, zbl, zbm, zbn, zbo, zbp, zbq, zbr, zbs, zbt, zbu, zbv, zbw, zbx, zby, zbz, zca, zcb, zcc, zcd, zce, zcf, zcg, zch, zci, zcj, zck, zcl, zcm, zcn, zco, zcp, zcq, zcr, zcs, zct, zcu, zcv, zcw, zcx, zcy, zcz, zda, zdb, zdc, zdd, zde, zdf, Option.getD_some, Option.getD_none, zet, zeu, zev, zew, zex, zey, zez, zfa, Option.map_some, Option.map_none, Option.bind_some, List.map_cons, List.map_nil, List.cons_append, List.nil_append, ↓reduceIte, Nat.reduceEqDiff, Nat.reduceAdd, decide_true, decide_false, Bool.true_eq_false, Bool.false_eq_true, zdg, zdh, zdi, zdj, zdk, zdl, zdm, zdn, ia22, ld31, zdo, zdp, zdq, zdr, zds, zdt, zdu, zdv, zdw, zdx, zdy, zdz, zea, zeb, zec, fa_0, fa_1, zed, bd_0, bd_2, zee, fd_1, zef, Nat.zero_add, opA_nilc, nilE_ptr, cellsE_buf, Option.isSome_some, e1, e2, e3, j2, j3, ldI1, st_I, stI_buf, f0, g1, g2, ldT_a, co, unA_not', Bool.not_false]
      exact finish_b _ _ _ _ _ _ _ (by first | (simp only [zfa, ↓reduceIte, Nat.reduceEqDiff]; done) | (simp only [zfa, ↓reduceIte, Nat.reduceEqDiff]; rfl)) (outs_3 _ _ _ _ _ (by first | (simp only [zfa, ↓reduceIte, Nat.reduceEqDiff]; done) | (simp only [zfa, ↓reduceIte, Nat.reduceEqDiff]; rfl)))
    | true =>
      rw [g3] at co
      have hg : ¬ (left - 1 < 0 ∨ deep > 60 ∨ ownT (.mk k b lg l s m kg ks) = false) := by rw [g3]; simp only [g1, g2, false_or]; decide
      have hgo : ∀ (K : Kont) (env : Env) (st : St) (i : Nat) (kid : T) (r : List T) (kl : List T), kl.drop i = kid :: r → i < kl.length := by
        intro K env st i kid r kl hd
        have := congrArg List.length hd
        simp only [List.length_drop, List.length_cons] at this
        omega
      by_cases hk : k = 4
      · obtain ⟨x, y, rfl⟩ := own_kids g3 hk
        subst hk
        have hwk : wfK [x, y] := by simp only [wfT] at hwf; exact hwf.2
        simp only [wfK, and_true] at hwk
        have hhk : max (htT x) (htT y) + 1 ≤ d := by simp only [htT, htK] at hht; omega
        have hnk : nodT x + nodT y + 1 < n := by simp only [nodT, nodK] at hnod; omega
        have hnk2 : nodT (.mk 4 b lg l s m kg [x, y]) = nodT x + nodT y + 1 := by simp only [nodT, nodK]; omega
        have hr : chkT (.mk 4 b lg l s m kg [x, y]) deep left = if (chkT x (deep + 1) (left - 1)).1 = true then chkT y deep (chkT x (deep + 1) (left - 1)).2 else chkT x (deep + 1) (left - 1) := by
          simp only [chkT]; rw [if_neg hg]; simp only [↓reduceIte, chkC, chkL]
        have hk' : ((4 : Int) == 4) = true := rfl
        simp only [List.length_cons, List.length_nil, Nat.zero_add, Nat.reduceAdd] at co
        have hk2 : ((4 : Int) != 4) = false := rfl
        have s1 := fun st => sl_K1 st x y (gr kg)
        have w1 : ∀ st, lenA Tryd.prog 26 st (.sl (cellsK [x]) 1 .loose) = some (.int .i64 1) := fun st => lenTk st _ 1 _
        simp only [zaa, zab, zac, zad, zae, zaf, zag, zah, zai, zaj, zak, zal, zam, zan, zao, zap, zaq, zar, zas, zat, zau, zav, zaw, zax, zay, zaz, zba, zbb, zbc, zbd, zbe, zbf, zbg, zbh, zbi, zbj, Nat.reduceBEq, Bool.or_self, Bool.or_false, Bool.or_true, Bool.and_true, Bool.and_false, Bool.true_and, Bool.false_and, Option.isNone_none, Option.isNone_some, Option.isSome_some, Option.isSome_none, zbk, zbl, zbm, zbn, zbo, zbp, zbq, zbr, zbs, zbt, zbu, zbv, zbw, zbx, zby, zbz, zca, zcb, zcc, zcd, zce, zcf, zcg, zch, zci, zcj, zck, zcl, zcm, zcn, zco, zcp, zcq, zcr, zcs, zct, zcu, zcv, zcw, zcx, zcy, zcz, zda, zdb, zdc, zdd, zde, zdf, Option.getD_some, Option.getD_none, zet, zeu, zev, zew, zex, zey, zez, zfa, Option.map_some, Option.map_none, Option.bind_some, List.map_cons, List.map_nil, List.cons_append, List.nil_append, ↓reduceIte, Nat.reduceEqDiff, Nat.reduceAdd, decide_true, decide_false, Bool.true_eq_false, Bool.false_eq_true, zdg, zdh, zdi, zdj, zdk, zdl, zdm, zdn, ia22, ld31, zdo, zdp, zdq, zdr, zds, zdt, zdu, zdv, zdw, zdx, zdy, zdz, zea, zeb, zec, fa_0, fa_1, zed, bd_0, bd_2, zee, fd_1, zef, Nat.zero_add, opA_nilc, nilE_ptr, cellsE_buf, Option.isSome_some, e1, e2, e3, j2, j3, ldI1, st_I, stI_buf, f0, g1, g2, ldT_a, co, unA_not', Bool.not_true, faT_0, faT_4, ldT_0, ldT_4, i_eqlV, hk', s1, w1, lenTk, den_loop, List.length_cons, List.length_nil, Nat.zero_add, Nat.reduceAdd]
        refine loop_ends (X := Bool) (fun z env s' => env 1 = .int .i64 deep ∧ env 2 = .ptr 2 0 0 ∧ env 3 = .ptr 3 1 0 ∧ env 35 = .sl (cellsK [x]) 1 .loose ∧ env 36 = .int .i64 1 ∧ env 37 = .int .i64 (if z = true then 1 else 0) ∧ s' 3 = ⟨1, .buf (cellsT (.mk 4 b lg l s m kg [x, y]))⟩ ∧ s' 2 = ⟨0, .buf [.int .i64 (if z = true then (chkT x (deep + 1) (left - 1)).2 else left - 1)]⟩ ∧ (z = true → (chkT x (deep + 1) (left - 1)).1 = true)) (fun z => if z = true then 0 else 1) (fun _ => (.tree (.bool (chkT (.mk 4 b lg l s m kg [x, y]) deep left).1), [[], [], [.int .i64 (chkT (.mk 4 b lg l s m kg [x, y]) deep left).2]])) ?_ n false _ _ (by simp only [Bool.false_eq_true, ↓reduceIte]; omega) ⟨(by first | (simp only [zfa, ↓reduceIte, Nat.reduceEqDiff, e1]; done) | (simp only [zfa, ↓reduceIte, Nat.reduceEqDiff, e1]; rfl)), (by first | (simp only [zfa, ↓reduceIte, Nat.reduceEqDiff, e2]; done) | (simp only [zfa, ↓reduceIte, Nat.reduceEqDiff, e2]; rfl)), (by first | (simp only [zfa, ↓reduceIte, Nat.reduceEqDiff, e3]; done) | (simp only [zfa, ↓reduceIte, Nat.reduceEqDiff, e3]; rfl)), (by first | (simp only [zfa, ↓reduceIte, Nat.reduceEqDiff]; done) | (simp only [zfa, ↓reduceIte, Nat.reduceEqDiff]; rfl)), (by first | (simp only [zfa, ↓reduceIte, Nat.reduceEqDiff]; done) | (simp only [zfa, ↓reduceIte, Nat.reduceEqDiff]; rfl)), (by first | (simp only [zfa, ↓reduceIte, Nat.reduceEqDiff]; done) | (simp only [zfa, ↓reduceIte, Nat.reduceEqDiff]; rfl)), by simp only [cellsT]; exact (by first | (simp only [zfa, ↓reduceIte, Nat.reduceEqDiff, j3]; done) | (simp only [zfa, ↓reduceIte, Nat.reduceEqDiff, j3]; rfl)), (by first | (simp only [zfa, ↓reduceIte, Nat.reduceEqDiff]; done) | (simp only [zfa, ↓reduceIte, Nat.reduceEqDiff]; rfl)), by intro h; cases h⟩
        rintro rr (_ | _) hrr ih2 env st ⟨e1, e2, e3, e35, e36, e37, j3, j2, hz⟩
        · simp only [Bool.false_eq_true, ↓reduceIte] at e37 j2
          have q1 : (0 : Int) < 1 := by decide
          have f5 := i_add Tryd.prog 3 0 1 (by omega) (by omega)
          have f6 := i_add Tryd.prog 3 deep 1 (by omega) (by omega)
          have cc := fun D => callA_tip (cfg := cfg0) (D := D) (IH x (deep + 1) (left - 1) (by omega) (by omega) hwk.1 (by omega) (by omega) (by omega) (by omega))
          have ia : ∀ st, indexAddrA Tryd.prog 26 st (.sl (cellsK [x]) 1 .loose) (.int .i64 0) = some (.rptr (cellsK [x])) := fun st => ia_K st [x] .loose 0 (Nat.zero_lt_succ _)
          have ld := fun st => ld_K st x []
          simp only [encT] at ld
          cases hx : (chkT x (deep + 1) (left - 1)).1 with
          | false =>
            rw [hx] at hr cc
            simp only [Bool.false_eq_true, ↓reduceIte] at hr
            rw [hr, hx]
            simp only [zaa, zab, zac, zad, zae, zaf, zag, zah, zai, zaj, zak, zal, zam, zan, zao, zap, zaq, zar, zas, zat, zau, zav, zaw, zax, zay, zaz, zba, zbb, zbc, zbd, zbe, zbf, zbg, zbh, zbi, zbj, Nat.reduceBEq, Bool.or_self, Bool.or_false, Bool.or_true, Bool.and_true, Bool.and_false, Bool.true_and, Bool.false_and, Option.isNone_none, Option.isNone_some, Option.isSome_some, Option.isSome_none, zbk, zbl, zbm, zbn, zbo, zbp, zbq, zbr, zbs, zbt, zbu, zbv, zbw, zbx, zby, zbz, zca, zcb, zcc, zcd, zce, zcf, zcg, zch, zci, zcj, zck, zcl, zcm, zcn, zco, zcp, zcq, zcr, zcs, zct, zcu, zcv, zcw, zcx, zcy, zcz, zda, zdb, zdc, zdd, zde, zdf, Option.getD_some, Option.getD_none, zet, zeu, zev, zew, zex, zey, zez, zfa, Option.map_some, Option.map_none, Option.bind_some, List.map_cons, List.map_nil, List.cons_append, List.nil_append, ↓reduceIte, Nat.reduceEqDiff, Nat.reduceAdd, decide_true, decide_false, Bool.true_eq_false, Bool.false_eq_true, zdg, zdh, zdi, zdj, zdk, zdl, zdm, zdn, ia22, ld31, zdo, zdp, zdq, zdr, zds, zdt, zdu, zdv, zdw, zdx, zdy, zdz, zea, zeb, zec, fa_0, fa_1, zed, bd_0, bd_2, zee, fd_1, zef, Nat.zero_add, opA_nilc, nilE_ptr, cellsE_buf, Option.isSome_some, e1, e2, e3, e35, e36, e37, j2, j3, q1, ia, ld, zeroT, st_Tt, stT_6, ldT_u, f6, cc, unA_not', Bool.not_false]
            exact finish_b _ _ _ _ _ _ _ (by first | (simp only [zfa, ↓reduceIte, Nat.reduceEqDiff]; done) | (simp only [zfa, ↓reduceIte, Nat.reduceEqDiff]; rfl)) (outs_3 _ _ _ _ _ (by first | (simp only [zfa, ↓reduceIte, Nat.reduceEqDiff]; done) | (simp only [zfa, ↓reduceIte, Nat.reduceEqDiff]; rfl)))
          | true =>
            rw [hx] at cc
            simp only [zaa, zab, zac, zad, zae, zaf, zag, zah, zai, zaj, zak, zal, zam, zan, zao, zap, zaq, zar, zas, zat, zau, zav, zaw, zax, zay, zaz, zba, zbb, zbc, zbd, zbe, zbf, zbg, zbh, zbi, zbj, Nat.reduceBEq, Bool.or_self, Bool.or_false, Bool.or_true, Bool.and_true, Bool.and_false, Bool.true_and, Bool.false_and, Option.isNone_none, Option.isNone_some, Option.isSome_some, Option.isSome_none, zbk, zbl, zbm, zbn, zbo, zbp, zbq, zbr, zbs, zbt, zbu, zbv, zbw, zbx, zby, zbz, zca, zcb, zcc, zcd, zce, zcf, zcg, zch, zci, zcj, zck, zcl, zcm, zcn, zco, zcp, zcq, zcr, zcs, zct, zcu, zcv, zcw, zcx, zcy, zcz, zda, zdb, zdc, zdd, zde, zdf, Option.getD_some, Option.getD_none, zet, zeu, zev, zew, zex, zey, zez, zfa, Option.map_some, Option.map_none, Option.bind_some, List.map_cons, List.map_nil, List.cons_append, List.nil_append, ↓reduceIte, Nat.reduceEqDiff, Nat.reduceAdd, decide_true, decide_false, Bool.true_eq_false, Bool.false_eq_true, zdg, zdh, zdi, zdj, zdk, zdl, zdm, zdn, ia22, ld31, zdo, zdp, zdq, zdr, zds, zdt, zdu, zdv, zdw, zdx, zdy, zdz, zea, zeb, zec, fa_0, fa_1, zed, bd_0, bd_2, zee, fd_1, zef, Nat.zero_add, opA_nilc, nilE_ptr, cellsE_buf, Option.isSome_some, e1, e2, e3, e35, e36, e37, j2, j3, q1, ia, ld, zeroT, st_Tt, stT_6, ldT_u, f6, cc, unA_not', Bool.not_true, f5]
            exact ih2 true _ _ (by decide) rfl ⟨(by first | (simp only [zfa, ↓reduceIte, Nat.reduceEqDiff, e1]; done) | (simp only [zfa, ↓reduceIte, Nat.reduceEqDiff, e1]; rfl)), (by first | (simp only [zfa, ↓reduceIte, Nat.reduceEqDiff, e2]; done) | (simp only [zfa, ↓reduceIte, Nat.reduceEqDiff, e2]; rfl)), (by first | (simp only [zfa, ↓reduceIte, Nat.reduceEqDiff, e3]; done) | (simp only [zfa, ↓reduceIte, Nat.reduceEqDiff, e3]; rfl)), (by first | (simp only [zfa, ↓reduceIte, Nat.reduceEqDiff, e35]; done) | (simp only [zfa, ↓reduceIte, Nat.reduceEqDiff, e35]; rfl)), (by first | (simp only [zfa, ↓reduceIte, Nat.reduceEqDiff, e36]; done) | (simp only [zfa, ↓reduceIte, Nat.reduceEqDiff, e36]; rfl)), (by first | (simp only [zfa, ↓reduceIte, Nat.reduceEqDiff]; done) | (simp only [zfa, ↓reduceIte, Nat.reduceEqDiff]; rfl)), (by first | (simp only [zfa, ↓reduceIte, Nat.reduceEqDiff, j3]; done) | (simp only [zfa, ↓reduceIte, Nat.reduceEqDiff, j3]; rfl)), (by first | (simp only [zfa, ↓reduceIte, Nat.reduceEqDiff]; done) | (simp only [zfa, ↓reduceIte, Nat.reduceEqDiff]; rfl)), fun _ => hx⟩
        · simp only [↓reduceIte] at e37 j2
          have hx := hz rfl
          have hcn := chkT_nod x (deep + 1) (left - 1) hx
          rw [hx] at hr
          simp only [↓reduceIte] at hr
          have q1 : ¬ (1 : Int) < 1 := by decide
          have ia : ∀ st, indexAddrA Tryd.prog 26 st (.sl (cellsK [x, y]) 2 (gr kg)) (.int .i64 1) = some (.rptr (cellsK [y])) := fun st => ia_K st [x, y] (gr kg) 1 (Nat.lt_succ_self _)
          have ld := fun st => ld_K st y []
          simp only [encT] at ld
          simp only [cellsT] at j3
          simp only [zaa, zab, zac, zad, zae, zaf, zag, zah, zai, zaj, zak, zal, zam, zan, zao, zap, zaq, zar, zas, zat, zau, zav, zaw, zax, zay, zaz, zba, zbb, zbc, zbd, zbe, zbf, zbg, zbh, zbi, zbj, Nat.reduceBEq, Bool.or_self, Bool.or_false, Bool.or_true, Bool.and_true, Bool.and_false, Bool.true_and, Bool.false_and, Option.isNone_none, Option.isNone_some, Option.isSome_some, Option.isSome_none, zbk, zbl, zbm, zbn, zbo, zbp, zbq, zbr, zbs, zbt, zbu, zbv, zbw, zbx, zby, zbz, zca, zcb, zcc, zcd, zce, zcf, zcg, zch, zci, zcj, zck, zcl, zcm, zcn, zco, zcp, zcq, zcr, zcs, zct, zcu, zcv, zcw, zcx, zcy, zcz, zda, zdb, zdc, zdd, zde, zdf, Option.getD_some, Option.getD_none, zet, zeu, zev, zew, zex, zey, zez, zfa, Option.map_some, Option.map_none, Option.bind_some, List.map_cons, List.map_nil, List.cons_append, List.nil_append, ↓reduceIte, Nat.reduceEqDiff, Nat.reduceAdd, decide_true, decide_false, Bool.true_eq_false, Bool.false_eq_true, zdg, zdh, zdi, zdj, zdk, zdl, zdm, zdn, ia22, ld31, zdo, zdp, zdq, zdr, zds, zdt, zdu, zdv, zdw, zdx, zdy, zdz, zea, zeb, zec, fa_0, fa_1, zed, bd_0, bd_2, zee, fd_1, zef, Nat.zero_add, opA_nilc, nilE_ptr, cellsE_buf, Option.isSome_some, e1, e2, e3, e35, e36, e37, j2, j3, q1, faT_0, faT_4, ldT_0, ldT_4, hk2, ia, ld, st_Tt, stT_6, List.length_cons, List.length_nil, Nat.zero_add, Nat.reduceAdd]
          exact ih (y, (chkT x (deep + 1) (left - 1)).2) _ _ (by simp only; omega) (by simp only [hr]) ⟨(by first | (simp only [zfa, ↓reduceIte, Nat.reduceEqDiff, e1]; done) | (simp only [zfa, ↓reduceIte, Nat.reduceEqDiff, e1]; rfl)), (by first | (simp only [zfa, ↓reduceIte, Nat.reduceEqDiff, e2]; done) | (simp only [zfa, ↓reduceIte, Nat.reduceEqDiff, e2]; rfl)), (by first | (simp only [zfa, ↓reduceIte, Nat.reduceEqDiff, e3]; done) | (simp only [zfa, ↓reduceIte, Nat.reduceEqDiff, e3]; rfl)), (by first | (simp only [zfa, ↓reduceIte, Nat.reduceEqDiff]; done) | (simp only [zfa, ↓reduceIte, Nat.reduceEqDiff]; rfl)), (by first | (simp only [zfa, ↓reduceIte, Nat.reduceEqDiff, j2]; done) | (simp only [zfa, ↓reduceIte, Nat.reduceEqDiff, j2]; rfl)), by simp only; omega, by simp only; omega, hwk.2, by simp only; omega, by simp only; omega⟩
      · have hr : chkT (.mk k b lg l s m kg ks) deep left = chkK ks (deep + 1) (left - 1) := by simp only [chkT]; rw [if_neg hg, if_neg hk]
        have hk' : (k == 4) = false := by rw [beq_eq_false_iff_ne]; exact hk
        have hk2 : (k != 4) = true := by rw [bne, hk']; rfl
        have hwk : wfK ks := by simp only [wfT] at hwf; exact hwf.2
        have hhk : htK ks + 1 ≤ d := by simp only [htT] at hht; exact hht
        have hnk : nodK ks + 1 < n := by simp only [nodT] at hnod; exact hnod
        simp only [hr]
        generalize hR : chkK ks (deep + 1) (left - 1) = R
        simp only [zaa, zab, zac, zad, zae, zaf, zag, zah, zai, zaj, zak, zal, zam, zan, zao, zap, zaq, zar, zas, zat, zau, zav, zaw, zax, zay, zaz, zba, zbb, zbc, zbd, zbe, zbf, zbg, zbh, zbi, zbj, Nat.reduceBEq, Bool.or_self, Bool.or_false, Bool.or_true, Bool.and_true, Bool.and_false, Bool.true_and, Bool.false_and, Option.isNone_none, Option.isNone_some, Option.isSome_some, Option.isSome_none, zbk, zbl, zbm, zbn, zbo, zbp, zbq, zbr, zbs, zbt, zbu, zbv, zbw, zbx, zby, zbz, zca, zcb, zcc, zcd, zce, zcf, zcg, zch, zci, zcj, zck, zcl, zcm, zcn, zco, zcp, zcq, zcr, zcs, zct, zcu, zcv, zcw, zcx, zcy, zcz, zda, zdb, zdc, zdd, zde, zdf, Option.getD_some, Option.getD_none, zet, zeu, zev, zew, zex, zey, zez, zfa, Option.map_some, Option.map_none, Option.bind_some, List.map_cons, List.map_nil, List.cons_append, List.nil_append, ↓reduceIte, Nat.reduceEqDiff, Nat.reduceAdd, decide_true, decide_false, Bool.true_eq_false, Bool.false_eq_true, zdg, zdh, zdi, zdj, zdk, zdl, zdm, zdn, ia22, ld31, zdo, zdp, zdq, zdr, zds, zdt, zdu, zdv, zdw, zdx, zdy, zdz, zea, zeb, zec, fa_0, fa_1, zed, bd_0, bd_2, zee, fd_1, zef, Nat.zero_add, opA_nilc, nilE_ptr, cellsE_buf, Option.isSome_some, e1, e2, e3, j2, j3, ldI1, st_I, stI_buf, f0, g1, g2, ldT_a, co, unA_not', Bool.not_true, faT_0, faT_4, ldT_0, ldT_4, i_eqlV, hk', lenTk, den_loop]
        refine loop_ends (X := Nat × Int) (fun x env s' => env 1 = .int .i64 deep ∧ env 2 = .ptr 2 0 0 ∧ env 3 = .ptr 3 1 0 ∧ env 35 = .sl (cellsK ks) ks.length (gr kg) ∧ env 36 = .int .i64 (ks.length : Int) ∧ env 37 = .int .i64 (x.1 : Int) ∧ s' 3 = ⟨1, .buf (cellsT (.mk k b lg l s m kg ks))⟩ ∧ s' 2 = ⟨0, .buf [.int .i64 x.2]⟩ ∧ x.1 ≤ ks.length ∧ 0 ≤ x.2 ∧ x.2 ≤ 1000000 ∧ chkK (ks.drop x.1) (deep + 1) x.2 = R) (fun x => ks.length - x.1) (fun _ => (.tree (.bool R.1), [[], [], [.int .i64 R.2]])) ?_ n (0, left - 1) _ _ (by have := nodK_len ks; simp only; omega) ⟨(by first | (simp only [zfa, ↓reduceIte, Nat.reduceEqDiff, e1]; done) | (simp only [zfa, ↓reduceIte, Nat.reduceEqDiff, e1]; rfl)), (by first | (simp only [zfa, ↓reduceIte, Nat.reduceEqDiff, e2]; done) | (simp only [zfa, ↓reduceIte, Nat.reduceEqDiff, e2]; rfl)), (by first | (simp only [zfa, ↓reduceIte, Nat.reduceEqDiff, e3]; done) | (simp only [zfa, ↓reduceIte, Nat.reduceEqDiff, e3]; rfl)), (by first | (simp only [zfa, ↓reduceIte, Nat.reduceEqDiff]; done) | (simp only [zfa, ↓reduceIte, Nat.reduceEqDiff]; rfl)), (by first | (simp only [zfa, ↓reduceIte, Nat.reduceEqDiff]; done) | (simp only [zfa, ↓reduceIte, Nat.reduceEqDiff]; rfl)), (by first | (simp only [zfa, ↓reduceIte, Nat.reduceEqDiff]; done) | (simp only [zfa, ↓reduceIte, Nat.reduceEqDiff]; rfl)), by simp only [cellsT]; exact (by first | (simp only [zfa, ↓reduceIte, Nat.reduceEqDiff, j3]; done) | (simp only [zfa, ↓reduceIte, Nat.reduceEqDiff, j3]; rfl)), (by first | (simp only [zfa, ↓reduceIte, Nat.reduceEqDiff]; done) | (simp only [zfa, ↓reduceIte, Nat.reduceEqDiff]; rfl)), Nat.zero_le _, by simp only; omega, by simp only; omega, hR⟩
        rintro rr ⟨i, lf⟩ hrr ih2 env st ⟨e1, e2, e3, e35, e36, e37, j3, j2, hi, hlf0, hlf1, hc⟩
        simp only at e37 j2 hi hlf0 hlf1 hc
        cases hd : ks.drop i with
        | nil =>
          have hil : i = ks.length := by have := congrArg List.length hd; simp only [List.length_drop, List.length_nil] at this; omega
          rw [hd] at hc
          simp only [chkK] at hc
          subst hc
          have q1 : ¬ ((i : Int) < (ks.length : Int)) := by omega
          simp only [cellsT] at j3
          simp only [zaa, zab, zac, zad, zae, zaf, zag, zah, zai, zaj, zak, zal, zam, zan, zao, zap, zaq, zar, zas, zat, zau, zav, zaw, zax, zay, zaz, zba, zbb, zbc, zbd, zbe, zbf, zbg, zbh, zbi, zbj, Nat.reduceBEq, Bool.or_self, Bool.or_false, Bool.or_true, Bool.and_true, Bool.and_false, Bool.true_and, Bool.false_and, Option.isNone_none, Option.isNone_some, Option.isSome_some, Option.isSome_none, zbk, zbl, zbm, zbn, zbo, zbp, zbq, zbr, zbs, zbt, zbu, zbv, zbw, zbx, zby, zbz, zca, zcb, zcc, zcd, zce, zcf, zcg, zch, zci, zcj, zck, zcl, zcm, zcn, zco, zcp, zcq, zcr, zcs, zct, zcu, zcv, zcw, zcx, zcy, zcz, zda, zdb, zdc, zdd, zde, zdf, Option.getD_some, Option.getD_none, zet, zeu, zev, zew, zex, zey, zez, zfa, Option.map_some, Option.map_none, Option.bind_some, List.map_cons, List.map_nil, List.cons_append, List.nil_append, ↓reduceIte, Nat.reduceEqDiff, Nat.reduceAdd, decide_true, decide_false, Bool.true_eq_false, Bool.false_eq_true, zdg, zdh, zdi, zdj, zdk, zdl, zdm, zdn, ia22, ld31, zdo, zdp, zdq, zdr, zds, zdt, zdu, zdv, zdw, zdx, zdy, zdz, zea, zeb, zec, fa_0, fa_1, zed, bd_0, bd_2, zee, fd_1, zef, Nat.zero_add, opA_nilc, nilE_ptr, cellsE_buf, Option.isSome_some, e1, e2, e3, e35, e36, e37, j2, j3, q1, faT_0, faT_4, ldT_0, ldT_4, hk2]
          exact finish_b _ _ _ _ _ _ _ (by first | (simp only [zfa, ↓reduceIte, Nat.reduceEqDiff]; done) | (simp only [zfa, ↓reduceIte, Nat.reduceEqDiff]; rfl)) (outs_3 _ _ _ _ _ (by first | (simp only [zfa, ↓reduceIte, Nat.reduceEqDiff, j2]; done) | (simp only [zfa, ↓reduceIte, Nat.reduceEqDiff, j2]; rfl)))
        | cons kid r =>
          have hil : i < ks.length := by have := congrArg List.length hd; simp only [List.length_drop, List.length_cons] at this; omega
          rw [hd] at hc
          simp only [chkK] at hc
          have q1 : (i : Int) < (ks.length : Int) := by omega
          have f5 := i_add Tryd.prog 3 (i : Int) 1 (by omega) (by have := nodK_len ks; omega)
          have f6 := i_add Tryd.prog 3 deep 1 (by omega) (by omega)
          have kh := kids_ht ks i kid r hd
          have kn := kids_nod ks i kid r hd
          have kw := kids_wf ks i kid r hd hwk
          have cc := fun D => callA_tip (cfg := cfg0) (D := D) (IH kid (deep + 1) lf (by omega) (by omega) kw (by omega) (by omega) hlf0 hlf1)
          have ia := fun st => ia_K st ks (gr kg) i hil
          rw [hd] at ia
          have ld := fun st => ld_K st kid r
          simp only [encT] at ld
          cases hx : (chkT kid (deep + 1) lf).1 with
          | false =>
            rw [hx] at hc cc
            simp only [Bool.false_eq_true, ↓reduceIte] at hc
            rw [← hc, hx]
            simp only [zaa, zab, zac, zad, zae, zaf, zag, zah, zai, zaj, zak, zal, zam, zan, zao, zap, zaq, zar, zas, zat, zau, zav, zaw, zax, zay, zaz, zba, zbb, zbc, zbd, zbe, zbf, zbg, zbh, zbi, zbj, Nat.reduceBEq, Bool.or_self, Bool.or_false, Bool.or_true, Bool.and_true, Bool.and_false, Bool.true_and, Bool.false_and, Option.isNone_none, Option.isNone_some, Option.isSome_some, Option.isSome_none, zbk, zbl, zbm, zbn, zbo, zbp, zbq, zbr, zbs, zbt, zbu, zbv, zbw, zbx, zby, zbz, zca, zcb, zcc, zcd, zce, zcf, zcg, zch, zci, zcj, zck, zcl, zcm, zcn, zco, zcp, zcq, zcr, zcs, zct, zcu, zcv, zcw, zcx, zcy, zcz, zda, zdb, zdc, zdd, zde, zdf, Option.getD_some, Option.getD_none, zet, zeu, zev, zew, zex, zey, zez, zfa, Option.map_some, Option.map_none, Option.bind_some, List.map_cons, List.map_nil, List.cons_append, List.nil_append, ↓reduceIte, Nat.reduceEqDiff, Nat.reduceAdd, decide_true, decide_false, Bool.true_eq_false, Bool.false_eq_true, zdg, zdh, zdi, zdj, zdk, zdl, zdm, zdn, ia22, ld31, zdo, zdp, zdq, zdr, zds, zdt, zdu, zdv, zdw, zdx, zdy, zdz, zea, zeb, zec, fa_0, fa_1, zed, bd_0, bd_2, zee, fd_1, zef, Nat.zero_add, opA_nilc, nilE_ptr, cellsE_buf, Option.isSome_some, e1, e2, e3, e35, e36, e37, j2, j3, q1, ia, ld, zeroT, st_Tt, stT_6, ldT_u, f6, cc, unA_not', Bool.not_false]
            exact finish_b _ _ _ _ _ _ _ (by first | (simp only [zfa, ↓reduceIte, Nat.reduceEqDiff]; done) | (simp only [zfa, ↓reduceIte, Nat.reduceEqDiff]; rfl)) (outs_3 _ _ _ _ _ (by first | (simp only [zfa, ↓reduceIte, Nat.reduceEqDiff]; done) | (simp only [zfa, ↓reduceIte, Nat.reduceEqDiff]; rfl)))
          | true =>
            rw [hx] at hc cc
            simp only [↓reduceIte] at hc
            have hcn := chkT_nod kid (deep + 1) lf hx
            simp only [zaa, zab, zac, zad, zae, zaf, zag, zah, zai, zaj, zak, zal, zam, zan, zao, zap, zaq, zar, zas, zat, zau, zav, zaw, zax, zay, zaz, zba, zbb, zbc, zbd, zbe, zbf, zbg, zbh, zbi, zbj, Nat.reduceBEq, Bool.or_self, Bool.or_false, Bool.or_true, Bool.and_true, Bool.and_false, Bool.true_and, Bool.false_and, Option.isNone_none, Option.isNone_some, Option.isSome_some, Option.isSome_none, zbk, zbl, zbm, zbn, zbo, zbp, zbq, zbr, zbs, zbt, zbu, zbv, zbw, zbx, zby, zbz, zca, zcb, zcc, zcd, zce, zcf, zcg, zch, zci, zcj, zck, zcl, zcm, zcn, zco, zcp, zcq, zcr, zcs, zct, zcu, zcv, zcw, zcx, zcy, zcz, zda, zdb, zdc, zdd, zde, zdf, Option.getD_some, Option.getD_none, zet, zeu, zev, zew, zex, zey, zez, zfa, Option.map_some, Option.map_none, Option.bind_some, List.map_cons, List.map_nil, List.cons_append, List.nil_append, ↓reduceIte, Nat.reduceEqDiff, Nat.reduceAdd, decide_true, decide_false, Bool.true_eq_false, Bool.false_eq_true, zdg, zdh, zdi, zdj, zdk, zdl, zdm, zdn, ia22, ld31, zdo, zdp, zdq, zdr, zds, zdt, zdu, zdv, zdw, zdx, zdy, zdz, zea, zeb, zec, fa_0, fa_1, zed, bd_0, bd_2, zee, fd_1, zef, Nat.zero_add, opA_nilc, nilE_ptr, cellsE_buf, Option.isSome_some, e1, e2, e3, e35, e36, e37, j2, j3, q1, ia, ld, zeroT, st_Tt, stT_6, ldT_u, f6, cc, unA_not', Bool.not_true, f5]
            refine ih2 (i + 1, (chkT kid (deep + 1) lf).2) _ _ (by simp only; omega) rfl ⟨?_, ?_, ?_, ?_, ?_, ?_, ?_, ?_, by simp only; omega, by simp only; omega, by simp only; omega, by simp only; rw [drop_next hd]; exact hc⟩
            · simp only [zfa, ↓reduceIte, Nat.reduceEqDiff, e1]
            · simp only [zfa, ↓reduceIte, Nat.reduceEqDiff, e2]
            · simp only [zfa, ↓reduceIte, Nat.reduceEqDiff, e3]
            · simp only [zfa, ↓reduceIte, Nat.reduceEqDiff, e35]
            · simp only [zfa, ↓reduceIte, Nat.reduceEqDiff, e36]
            · simp only [zfa, ↓reduceIte, Nat.reduceEqDiff]; rfl
            · simp only [zfa, ↓reduceIte, Nat.reduceEqDiff, j3]
            · simp only [zfa, ↓reduceIte, Nat.reduceEqDiff]
end Go.Ab
