/- The statement TermDeep. No conditions. -/
import Derived.Test.YtaifnpbgamookaaDoorAbtT10
import Derived.Test.YtaifnpbgamookaaDoorAbtT5
namespace Go.Ab
open Go.Proofs
set_option maxRecDepth 100000
set_option linter.unusedSimpArgs false

def nilT : T := .mk 3 false .n [] [] 0 .n []
def mkT (k : Int) (ks : List T) : T := .mk k false .n [] [] 0 .t ks
def tupN : Nat → T
  | 0 => nilT
  | j + 1 => mkT 5 [tupN j]
def consN : Nat → T
  | 0 => nilT
  | j + 1 => mkT 4 [nilT, consN j]
theorem own_nil : ownT nilT = true := by decide
theorem own_cons (a b : T) : ownT (mkT 4 [a, b]) = true := rfl
theorem own_tup1 (a : T) : ownT (mkT 5 [a]) = true := rfl
theorem chk_nil (deep left : Int) : chkT nilT deep left = if left - 1 < 0 ∨ deep > 60 then (false, left - 1) else (true, left - 1) := by
  have := own_nil
  unfold nilT at *
  simp only [chkT, this, Bool.true_eq_false, or_false, Int.reduceEq, ↓reduceIte, chkK]
theorem chk_tup : ∀ (j : Nat) (deep left : Int), (j : Int) < left → (chkT (tupN j) deep left).1 = decide (deep + j ≤ 60)
  | 0, deep, left, h => by
    rw [tupN, chk_nil]
    by_cases g : deep > 60
    · rw [if_pos (.inr g), decide_eq_false (by omega)]
    · rw [if_neg (by omega), decide_eq_true (by omega)]
  | j + 1, deep, left, h => by
    have ho := own_tup1 (tupN j)
    have ih := chk_tup j (deep + 1) (left - 1) (by omega)
    rw [tupN]
    unfold mkT at *
    simp only [chkT, ho, Bool.true_eq_false, or_false, Int.reduceEq, ↓reduceIte, chkK]
    by_cases g : deep > 60
    · rw [if_pos (.inr g), decide_eq_false (by omega)]
    · rw [if_neg (by omega), ih]
      by_cases g2 : deep + 1 + j ≤ 60
      · rw [decide_eq_true g2, if_pos rfl, decide_eq_true (by omega)]
      · rw [decide_eq_false g2, if_neg (by decide), ih, decide_eq_false g2, decide_eq_false (by omega)]
theorem chk_consN : ∀ (j : Nat) (left : Int), 0 ≤ left → (chkT (consN j) 1 left).1 = decide (2 * (j : Int) + 1 ≤ left)
  | 0, left, h => by
    rw [consN, chk_nil]
    by_cases g : left - 1 < 0
    · rw [if_pos (.inl g), decide_eq_false (by omega)]
    · rw [if_neg (by omega), decide_eq_true (by omega)]
  | j + 1, left, h => by
    have ho := own_cons nilT (consN j)
    have cn := chk_nil (1 + 1) (left - 1)
    rw [consN]
    unfold mkT at *
    simp only [chkT, ho, Bool.true_eq_false, or_false, Int.reduceEq, ↓reduceIte, chkC, chkL]
    by_cases g : left - 1 < 0
    · rw [if_pos (.inl g), decide_eq_false (by omega)]
    · rw [if_neg (by omega)]
      by_cases g2 : left - 1 - 1 < 0
      · rw [if_pos (.inl g2)] at cn
        rw [cn, if_neg (by simp), decide_eq_false (by omega)]
      · rw [if_neg (by omega)] at cn
        rw [cn, if_pos rfl, chk_consN j _ (by simp only; omega)]
        simp only
        rw [Bool.eq_iff_iff, decide_eq_true_eq, decide_eq_true_eq]
        omega
theorem nod_tup : ∀ j : Nat, nodT (tupN j) = j + 1
  | 0 => rfl
  | j + 1 => by rw [tupN, mkT, nodT, nodK, nodK, nod_tup j]
theorem ht_tup : ∀ j : Nat, htT (tupN j) = j + 1
  | 0 => rfl
  | j + 1 => by rw [tupN, mkT, htT, htK, htK, ht_tup j]; omega
theorem wf_tup : ∀ j : Nat, wfT (tupN j)
  | 0 => by rw [tupN, nilT]; simp only [wfT, wfK, and_true]; exact limbs_nil
  | j + 1 => by rw [tupN, mkT]; simp only [wfT, wfK, and_true]; exact ⟨limbs_nil, wf_tup j⟩
theorem wf_nilT : wfT nilT := wf_tup 0
theorem nod_consN : ∀ j : Nat, nodT (consN j) = 2 * j + 1
  | 0 => rfl
  | j + 1 => by
    have : nodT nilT = 1 := rfl
    rw [consN, mkT, nodT, nodK, nodK, nodK, nod_consN j, this]; omega
theorem ht_consN : ∀ j : Nat, htT (consN j) = j + 1
  | 0 => rfl
  | j + 1 => by
    have : htT nilT = 1 := rfl
    rw [consN, mkT, htT, htK, htK, htK, ht_consN j, this]; omega
theorem wf_consN : ∀ j : Nat, wfT (consN j)
  | 0 => wf_nilT
  | j + 1 => by rw [consN, mkT]; simp only [wfT, wfK, and_true]; exact ⟨limbs_nil, wf_nilT, wf_consN j⟩
def one26 (x : AV) : Option AV := (fillA (fun i => some (i * 6, 6)) (rep 1 [.int .i64 0, .bool false, .sl [] 0 .nil, .str [], .int .i64 0, .sl [] 0 .nil]) [(0, x)]).map (.sl · 1 .tight)
theorem opA_one26 (call : FuncId → List Arg → Option Out) (q : Bool) (d : Option Tmp) (ty : TypeId) (pos : String) (af : Array Edge) (g : Option (Nat × Bool)) (t : Nat) (env : Env) (s : St) (x : Operand) :
    opA Tryd.prog cfg0 call q ⟨d, .buildSlice 26 1 #[(0, x)], ty, pos, af, g⟩ t env s = (one26 (ev env x)).map (·, s) := by
  rw [opA_bs]
  simp only [tkTk, eszT, zeroT, Option.bind_some, List.map_cons, List.map_nil]
  rfl
theorem one26_T (a : T) : one26 (.agg (cellsT a)) = some (.sl (cellsK [a]) 1 .tight) := by
  obtain ⟨k, b, lg, l, s, m, kg, ks⟩ := a
  simp only [cellsT, cellsK, List.append_nil]
  rfl
theorem two26_T (a b : T) : two26 (.agg (cellsT a)) (.agg (cellsT b)) = some (.sl (cellsK [a, b]) 2 .tight) := by
  obtain ⟨k, b1, lg, l, s, m, kg, ks⟩ := a
  obtain ⟨k', b2, lg', l', s', m', kg', ks'⟩ := b
  simp only [cellsT, cellsK, List.append_nil, List.cons_append, List.nil_append]
  exact two26_agg _ _ _ _ _ _ _ _ _ _ _ _
theorem nil_cells : cellsT nilT = [.int .i64 3, .bool false, .sl [] 0 .nil, .str [], .int .i64 0, .sl [] 0 .nil] := rfl
theorem bdT_nil : buildA Tryd.prog 28 [(0, .int .i64 3)] = some (.agg (cellsT nilT)) := bdT_0 3
theorem bdT_mk (k : Int) (ks : List T) (m : Nat) (hm : m = ks.length) : buildA Tryd.prog 28 [(0, .int .i64 k), (4, .sl (cellsK ks) m .tight)] = some (.agg (cellsT (mkT k ks))) := by subst hm; exact bdT_4 k _ _ .t
theorem stT_z (t k p : Nat) (s : St) (a b c d e f : AV) (u : T) : stT ⟨t, .buf [a, b, c, d, e, f]⟩ p k s (cellsT u) = if t = k then some (upd s p ⟨t, .buf (cellsT u)⟩) else none := stT_6 t k p s a b c d e f u
theorem awakeT_deep : evalFn Tryd.prog cfg0 100000 1299 12 [] = some (.tree (.bool true), []) := isOkT_eq (by kernel_rfl)
theorem i_mul2 (x : Nat) (h : x ≤ 1000000) : binA Tryd.prog .mul 3 (.int .i64 2) (.int .i64 (x : Int)) = some (.int .i64 (2 * (x : Int))) := by
  exact i_mul Tryd.prog 3 2 (x : Int) (by omega) (by omega)
set_option maxHeartbeats 16000000 in
theorem deep_eqN (p q : Int) : evalFn Tryd.prog cfg0 100000 1300 3 [.tree (.int .i64 p), .tree (.int .i64 q)] = some (.tree (.bool true), [[], []]) := by
  rw [evalFn_go _ Tryd.func3 (by unfold Tryd.f3; rfl) (by unfold Tryd.f3; decide) (Nat.le_of_ble_eq_true (by unfold Tryd.f3; rfl)) (by kernel_rfl)]
  have hp := place_range p 80 (by decide)
  have hq := place_range q 1200 (by decide)
  have c0 := fun D st => cPlace 100000 1298 p 80 (by decide) (by decide) D st
  have c1 := fun D st => cPlace 100000 1298 q 1200 (by decide) (by decide) D st
  obtain ⟨i, hi⟩ : ∃ i : Nat, placeN p 80 = (i : Int) := ⟨(placeN p 80).toNat, by omega⟩
  obtain ⟨k, hk⟩ : ∃ k : Nat, placeN q 1200 = (k : Int) := ⟨(placeN q 1200).toNat, by omega⟩
  rw [hi] at c0 hp
  rw [hk] at c1 hq
  have wq := callQ_trees (f := 12) (vs := []) rfl awakeT_deep
  have wa := fun D st => callA_trees (cfg := cfg0) (d := D) (s := st) (f := 12) (vs := []) rfl awakeT_deep
  have eb := bool_eql 4 tk4
  have k1 := fun D st => callA_trees (cfg := cfg0) (d := D) (s := st) (f := 10) (vs := [encT (tupN i)]) rfl (tCheck_eq 100000 (by decide) (by decide) 1295 (tupN i) (by rw [ht_tup]; omega) (by rw [nod_tup]; omega) (wf_tup i))
  have k2 := fun D st => callA_trees (cfg := cfg0) (d := D) (s := st) (f := 10) (vs := [encT (consN k)]) rfl (tCheck_eq 100000 (by decide) (by decide) 1295 (consN k) (by rw [ht_consN]; omega) (by rw [nod_consN]; omega) (wf_consN k))
  have k3 := fun D st => callA_trees (cfg := cfg0) (d := D) (s := st) (f := 11) (vs := [encT (consN k)]) rfl (tNodes_eq 100000 (by decide) 1299 (consN k) (by rw [ht_consN]; omega) (by rw [nod_consN]; omega))
  rw [chk_tup i 1 2000 (by omega)] at k1
  rw [chk_consN k 2000 (by omega)] at k2
  rw [nod_consN] at k3
  simp only [encT] at k1 k2 k3
  simp only [zaa, zab, zac, zad, zae, zaf, zag, zah, zai, zaj, zak, zal, zam, zan, zao, zap, zaq, zar, zas, zat, zau, zav, zaw, zax, zay, zaz, zba, zbb, zbc, zbd, zbe, zbf, zbg, zbh, zbi, zbj, Nat.reduceBEq, Bool.or_self, Bool.or_false, Bool.or_true, Bool.and_true, Bool.and_false, Bool.true_and, Bool.false_and, Option.isNone_none, Option.isNone_some, Option.isSome_some, Option.isSome_none, zbk, zbl, zbm, zbn, zbo, zbp, zbq, zbr, zbs, zbt, zbu, zbv, zbw, zbx, zby, zbz, zca, zcb, zcc, zcd, zce, zcf, zcg, zch, zci, zcj, zck, zcl, zcm, zcn, zco, zcp, zcq, zcr, zcs, zct, zcu, zcv, zcw, zcx, zcy, zcz, zda, zdb, zdc, zdd, zde, zdf, Option.getD_some, Option.getD_none, zet, zeu, zev, zew, zex, zey, zez, zfa, Option.map_some, Option.map_none, Option.bind_some, List.map_cons, List.map_nil, List.cons_append, List.nil_append, ↓reduceIte, Nat.reduceEqDiff, Nat.reduceAdd, decide_true, decide_false, Bool.true_eq_false, Bool.false_eq_true, env0, List.getElem?_cons_zero, List.getElem?_cons_succ, zdg, zdh, zdi, zdj, zdk, zdl, zdm, zdn, ia22, ld31, zdo, zdp, zdq, zdr, zds, zdt, zdu, zdv, zdw, zdx, zdy, zdz, zea, zeb, zec, fa_0, fa_1, zed, bd_0, bd_2, zee, fd_1, zef, Nat.zero_add, c0, bdT_nil, zeroT, st_Tt, stT_6, den_loop]
  refine loop_ends (X := Nat) (fun j env s => env 1 = .int .i64 q ∧ env 5 = .int .i64 (i : Int) ∧ env 6 = .ptr 6 1 0 ∧ env 7 = .int .i64 (j : Int) ∧ s 6 = ⟨1, .buf (cellsT (tupN j))⟩ ∧ (s 9).t = 0 ∧ j ≤ i) (fun j => i - j) (fun _ => (.tree (.bool true), [[], []])) ?_ 100000 0 _ _ (by omega) ⟨(by first | (simp only [zfa, ↓reduceIte, Nat.reduceEqDiff]; done) | (simp only [zfa, ↓reduceIte, Nat.reduceEqDiff]; rfl)), (by first | (simp only [zfa, ↓reduceIte, Nat.reduceEqDiff]; done) | (simp only [zfa, ↓reduceIte, Nat.reduceEqDiff]; rfl)), (by first | (simp only [zfa, ↓reduceIte, Nat.reduceEqDiff]; done) | (simp only [zfa, ↓reduceIte, Nat.reduceEqDiff]; rfl)), (by first | (simp only [zfa, ↓reduceIte, Nat.reduceEqDiff]; done) | (simp only [zfa, ↓reduceIte, Nat.reduceEqDiff]; rfl)), (by first | (simp only [zfa, ↓reduceIte, Nat.reduceEqDiff]; done) | (simp only [zfa, ↓reduceIte, Nat.reduceEqDiff]; rfl)), (by first | (simp only [zfa, ↓reduceIte, Nat.reduceEqDiff, zdw]; done) | (simp only [zfa, ↓reduceIte, Nat.reduceEqDiff, zdw]; rfl)), Nat.zero_le _⟩
  intro rr j hrr ih env st ⟨e1, e5, e6, e7, j6, j9, hj⟩
  by_cases hji : j < i
  · have q1 : (j : Int) < (i : Int) := by omega
    have f5 := i_add Tryd.prog 3 (j : Int) 1 (by omega) (by omega)
    simp only [zaa, zab, zac, zad, zae, zaf, zag, zah, zai, zaj, zak, zal, zam, zan, zao, zap, zaq, zar, zas, zat, zau, zav, zaw, zax, zay, zaz, zba, zbb, zbc, zbd, zbe, zbf, zbg, zbh, zbi, zbj, Nat.reduceBEq, Bool.or_self, Bool.or_false, Bool.or_true, Bool.and_true, Bool.and_false, Bool.true_and, Bool.false_and, Option.isNone_none, Option.isNone_some, Option.isSome_some, Option.isSome_none, zbk, zbl, zbm, zbn, zbo, zbp, zbq, zbr, zbs, zbt, zbu, zbv, zbw, zbx, zby, zbz, zca, zcb, zcc, zcd, zce, zcf, zcg, zch, zci, zcj, zck, zcl, zcm, zcn, zco, zcp, zcq, zcr, zcs, zct, zcu, zcv, zcw, zcx, zcy, zcz, zda, zdb, zdc, zdd, zde, zdf, Option.getD_some, Option.getD_none, zet, zeu, zev, zew, zex, zey, zez, zfa, Option.map_some, Option.map_none, Option.bind_some, List.map_cons, List.map_nil, List.cons_append, List.nil_append, ↓reduceIte, Nat.reduceEqDiff, Nat.reduceAdd, decide_true, decide_false, Bool.true_eq_false, Bool.false_eq_true, zdg, zdh, zdi, zdj, zdk, zdl, zdm, zdn, ia22, ld31, zdo, zdp, zdq, zdr, zds, zdt, zdu, zdv, zdw, zdx, zdy, zdz, zea, zeb, zec, fa_0, fa_1, zed, bd_0, bd_2, zee, fd_1, zef, Nat.zero_add, e1, e5, e6, e7, j6, q1, ldT_u, opA_one26, one26_T, bdT_mk _ _ _ (List.length_singleton).symm, st_Tt, stT_u, f5]
    exact ih (j + 1) _ _ (by omega) rfl ⟨(by first | (simp only [zfa, ↓reduceIte, Nat.reduceEqDiff, e1]; done) | (simp only [zfa, ↓reduceIte, Nat.reduceEqDiff, e1]; rfl)), (by first | (simp only [zfa, ↓reduceIte, Nat.reduceEqDiff, e5]; done) | (simp only [zfa, ↓reduceIte, Nat.reduceEqDiff, e5]; rfl)), (by first | (simp only [zfa, ↓reduceIte, Nat.reduceEqDiff, e6]; done) | (simp only [zfa, ↓reduceIte, Nat.reduceEqDiff, e6]; rfl)), (by first | (simp only [zfa, ↓reduceIte, Nat.reduceEqDiff]; done) | (simp only [zfa, ↓reduceIte, Nat.reduceEqDiff]; rfl)), (by first | (simp only [zfa, ↓reduceIte, Nat.reduceEqDiff]; done) | (simp only [zfa, ↓reduceIte, Nat.reduceEqDiff]; rfl)), (by first | (simp only [zfa, ↓reduceIte, Nat.reduceEqDiff, j9]; done) | (simp only [zfa, ↓reduceIte, Nat.reduceEqDiff, j9]; rfl)), by omega⟩
  obtain rfl : j = i := by omega
  clear ih
  have q1 : ¬ (j : Int) < (j : Int) := by omega
  simp only [zaa, zab, zac, zad, zae, zaf, zag, zah, zai, zaj, zak, zal, zam, zan, zao, zap, zaq, zar, zas, zat, zau, zav, zaw, zax, zay, zaz, zba, zbb, zbc, zbd, zbe, zbf, zbg, zbh, zbi, zbj, Nat.reduceBEq, Bool.or_self, Bool.or_false, Bool.or_true, Bool.and_true, Bool.and_false, Bool.true_and, Bool.false_and, Option.isNone_none, Option.isNone_some, Option.isSome_some, Option.isSome_none, zbk, zbl, zbm, zbn, zbo, zbp, zbq, zbr, zbs, zbt, zbu, zbv, zbw, zbx, zby, zbz, zca, zcb, zcc, zcd, zce, zcf, zcg, zch, zci, zcj, zck, zcl, zcm, zcn, zco, zcp, zcq, zcr, zcs, zct, zcu, zcv, zcw, zcx, zcy, zcz, zda, zdb, zdc, zdd, zde, zdf, Option.getD_some, Option.getD_none, zet, zeu, zev, zew, zex, zey, zez, zfa, Option.map_some, Option.map_none, Option.bind_some, List.map_cons, List.map_nil, List.cons_append, List.nil_append, ↓reduceIte, Nat.reduceEqDiff, Nat.reduceAdd, decide_true, decide_false, Bool.true_eq_false, Bool.false_eq_true, zdg, zdh, zdi, zdj, zdk, zdl, zdm, zdn, ia22, ld31, zdo, zdp, zdq, zdr, zds, zdt, zdu, zdv, zdw, zdx, zdy, zdz, zea, zeb, zec, fa_0, fa_1, zed, bd_0, bd_2, zee, fd_1, zef, Nat.zero_add, e1, e5, e6, e7, j6, j9, q1, c1, bdT_nil, zeroT, st_Tt, stT_6, den_loop]
  refine loop_ends (X := Nat) (fun m env s => env 5 = .int .i64 (j : Int) ∧ env 6 = .ptr 6 1 0 ∧ env 8 = .int .i64 (k : Int) ∧ env 9 = .ptr 9 1 0 ∧ env 10 = .int .i64 (m : Int) ∧ s 6 = ⟨1, .buf (cellsT (tupN j))⟩ ∧ s 9 = ⟨1, .buf (cellsT (consN m))⟩ ∧ m ≤ k) (fun m => k - m) (fun _ => (.tree (.bool true), [[], []])) ?_ 100000 0 _ _ (by omega) ⟨(by first | (simp only [zfa, ↓reduceIte, Nat.reduceEqDiff, e5]; done) | (simp only [zfa, ↓reduceIte, Nat.reduceEqDiff, e5]; rfl)), (by first | (simp only [zfa, ↓reduceIte, Nat.reduceEqDiff, e6]; done) | (simp only [zfa, ↓reduceIte, Nat.reduceEqDiff, e6]; rfl)), (by first | (simp only [zfa, ↓reduceIte, Nat.reduceEqDiff]; done) | (simp only [zfa, ↓reduceIte, Nat.reduceEqDiff]; rfl)), (by first | (simp only [zfa, ↓reduceIte, Nat.reduceEqDiff]; done) | (simp only [zfa, ↓reduceIte, Nat.reduceEqDiff]; rfl)), (by first | (simp only [zfa, ↓reduceIte, Nat.reduceEqDiff]; done) | (simp only [zfa, ↓reduceIte, Nat.reduceEqDiff]; rfl)), (by first | (simp only [zfa, ↓reduceIte, Nat.reduceEqDiff, j6]; done) | (simp only [zfa, ↓reduceIte, Nat.reduceEqDiff, j6]; rfl)), (by first | (simp only [zfa, ↓reduceIte, Nat.reduceEqDiff]; done) | (simp only [zfa, ↓reduceIte, Nat.reduceEqDiff]; rfl)), Nat.zero_le _⟩
  intro r2 m hr2 ih env st ⟨e5, e6, e8, e9, e10, j6, j9, hm⟩
  by_cases hmk : m < k
  · have q1 : (m : Int) < (k : Int) := by omega
    have f5 := i_add Tryd.prog 3 (m : Int) 1 (by omega) (by omega)
    simp only [zaa, zab, zac, zad, zae, zaf, zag, zah, zai, zaj, zak, zal, zam, zan, zao, zap, zaq, zar, zas, zat, zau, zav, zaw, zax, zay, zaz, zba, zbb, zbc, zbd, zbe, zbf, zbg, zbh, zbi, zbj, Nat.reduceBEq, Bool.or_self, Bool.or_false, Bool.or_true, Bool.and_true, Bool.and_false, Bool.true_and, Bool.false_and, Option.isNone_none, Option.isNone_some, Option.isSome_some, Option.isSome_none, zbk, zbl, zbm, zbn, zbo, zbp, zbq, zbr, zbs, zbt, zbu, zbv, zbw, zbx, zby, zbz, zca, zcb, zcc, zcd, zce, zcf, zcg, zch, zci, zcj, zck, zcl, zcm, zcn, zco, zcp, zcq, zcr, zcs, zct, zcu, zcv, zcw, zcx, zcy, zcz, zda, zdb, zdc, zdd, zde, zdf, Option.getD_some, Option.getD_none, zet, zeu, zev, zew, zex, zey, zez, zfa, Option.map_some, Option.map_none, Option.bind_some, List.map_cons, List.map_nil, List.cons_append, List.nil_append, ↓reduceIte, Nat.reduceEqDiff, Nat.reduceAdd, decide_true, decide_false, Bool.true_eq_false, Bool.false_eq_true, zdg, zdh, zdi, zdj, zdk, zdl, zdm, zdn, ia22, ld31, zdo, zdp, zdq, zdr, zds, zdt, zdu, zdv, zdw, zdx, zdy, zdz, zea, zeb, zec, fa_0, fa_1, zed, bd_0, bd_2, zee, fd_1, zef, Nat.zero_add, e5, e6, e8, e9, e10, j6, j9, q1, bdT_nil, ldT_u, opA_two26, two26_T, bdT_mk _ _ _ (show 2 = [nilT, consN m].length from rfl), st_Tt, stT_u, f5]
    exact ih (m + 1) _ _ (by omega) rfl ⟨(by first | (simp only [zfa, ↓reduceIte, Nat.reduceEqDiff, e5]; done) | (simp only [zfa, ↓reduceIte, Nat.reduceEqDiff, e5]; rfl)), (by first | (simp only [zfa, ↓reduceIte, Nat.reduceEqDiff, e6]; done) | (simp only [zfa, ↓reduceIte, Nat.reduceEqDiff, e6]; rfl)), (by first | (simp only [zfa, ↓reduceIte, Nat.reduceEqDiff, e8]; done) | (simp only [zfa, ↓reduceIte, Nat.reduceEqDiff, e8]; rfl)), (by first | (simp only [zfa, ↓reduceIte, Nat.reduceEqDiff, e9]; done) | (simp only [zfa, ↓reduceIte, Nat.reduceEqDiff, e9]; rfl)), (by first | (simp only [zfa, ↓reduceIte, Nat.reduceEqDiff]; done) | (simp only [zfa, ↓reduceIte, Nat.reduceEqDiff]; rfl)), (by first | (simp only [zfa, ↓reduceIte, Nat.reduceEqDiff, j6]; done) | (simp only [zfa, ↓reduceIte, Nat.reduceEqDiff, j6]; rfl)), (by first | (simp only [zfa, ↓reduceIte, Nat.reduceEqDiff]; done) | (simp only [zfa, ↓reduceIte, Nat.reduceEqDiff]; rfl)), by omega⟩
  obtain rfl : m = k := by omega
  clear ih
  have q2 : ¬ (m : Int) < (m : Int) := by omega
  have f1 := i_add Tryd.prog 3 (j : Int) 1 (by omega) (by omega)
  have f2 := i_mul2 m (by omega)
  have f3 := i_add Tryd.prog 3 (2 * (m : Int)) 1 (by omega) (by omega)
  have b1 : (decide (1 + (j : Int) ≤ 60) == decide ((j : Int) + 1 ≤ 60)) = true := by rw [Int.add_comm]; exact beq_self_eq_true _
  have b2 : (decide (2 * (m : Int) + 1 ≤ 2000) == decide (2 * (m : Int) + 1 ≤ 2000)) = true := beq_self_eq_true _
  have b3 : (((2 * m + 1 : Nat) : Int) == 2 * (m : Int) + 1) = true := by rw [beq_iff_eq]; omega
  simp only [zaa, zab, zac, zad, zae, zaf, zag, zah, zai, zaj, zak, zal, zam, zan, zao, zap, zaq, zar, zas, zat, zau, zav, zaw, zax, zay, zaz, zba, zbb, zbc, zbd, zbe, zbf, zbg, zbh, zbi, zbj, Nat.reduceBEq, Bool.or_self, Bool.or_false, Bool.or_true, Bool.and_true, Bool.and_false, Bool.true_and, Bool.false_and, Option.isNone_none, Option.isNone_some, Option.isSome_some, Option.isSome_none, zbk, zbl, zbm, zbn, zbo, zbp, zbq, zbr, zbs, zbt, zbu, zbv, zbw, zbx, zby, zbz, zca, zcb, zcc, zcd, zce, zcf, zcg, zch, zci, zcj, zck, zcl, zcm, zcn, zco, zcp, zcq, zcr, zcs, zct, zcu, zcv, zcw, zcx, zcy, zcz, zda, zdb, zdc, zdd, zde, zdf, Option.getD_some, Option.getD_none, zet, zeu, zev, zew, zex, zey, zez, zfa, Option.map_some, Option.map_none, Option.bind_some, List.map_cons, List.map_nil, List.cons_append, List.nil_append, ↓reduceIte, Nat.reduceEqDiff, Nat.reduceAdd, decide_true, decide_false, Bool.true_eq_false, Bool.false_eq_true, zdg, zdh, zdi, zdj, zdk, zdl, zdm, zdn, ia22, ld31, zdo, zdp, zdq, zdr, zds, zdt, zdu, zdv, zdw, zdx, zdy, zdz, zea, zeb, zec, fa_0, fa_1, zed, bd_0, bd_2, zee, fd_1, zef, Nat.zero_add, e5, e6, e8, e9, e10, j6, j9, q2, ldT_u, k1, k2, k3, f1, f2, f3, b1, b2, b3, eb, wq, wa, i_leqV, i_eqlV]
  exact finish_b _ _ _ _ _ _ _ (by first | (simp only [zfa, ↓reduceIte, Nat.reduceEqDiff]; done) | (simp only [zfa, ↓reduceIte, Nat.reduceEqDiff]; rfl)) rfl
end Go.Ab
