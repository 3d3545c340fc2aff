/- Several texts put together: AbnX1, AbnX2, AbnX3, AbnX4, AbnX5, AbnX6, AbnX7. Conditions: as each part says. -/
import Derived.Test.YtdibanolokkniaaDoorAbnA28
import Derived.Test.YtdibanolokkniaaDoorAbMM
import Derived.Test.YtdibanolokkniaaDoorAbnA19
/- Strings: what the library's functions upon them give. Conditions: lengths in range. -/
namespace Go.Ab
open Go.Proofs
set_option maxRecDepth 100000
set_option linter.unusedSimpArgs false

theorem len9 (s : St) (b : List UInt8) : lenA Tryd.prog 9 s (.str b) = some (.int .i64 (b.length : Int)) := by simp only [lenA, tk9]
theorem ix9 (b : List UInt8) (k : IntKind) (i : Int) : indexA Tryd.prog 9 (.str b) (.int k i) = if 0 ≤ i ∧ i < b.length then some (.int .u8 ((b.getD i.toNat 0).toNat : Int)) else none := by simp only [indexA, tk9]
theorem zeh (P : Program) (t : TypeId) (a b : List UInt8) : binA P .eql t (.str a) (.str b) = some (.bool (a == b)) := rfl
theorem zei (P : Program) (t : TypeId) (a b : List UInt8) : binA P .neq t (.str a) (.str b) = some (.bool (!(a == b))) := rfl
theorem s_addS (P : Program) (t : TypeId) (a b : List UInt8) (h : a.length + b.length ≤ 9223372036854775807) : binA P .add t (.str a) (.str b) = some (.str (a ++ b)) := if_pos h
theorem zej (s : St) (b : List UInt8) (k : IntKind) (i : Int) : sliceA Tryd.prog 9 s (.str b) (some (.int k i)) none none = if 0 ≤ i ∧ i ≤ b.length then some (.str (b.drop i.toNat)) else none := by
  simp only [sliceA, tk9, boundA, Option.isSome_none, Bool.false_eq_true, if_false, Option.bind_some]
  split
  · rw [Option.bind_some, List.take_length]
  · rfl
theorem zek (s : St) (b : List UInt8) (k : IntKind) (i : Int) : sliceA Tryd.prog 9 s (.str b) none (some (.int k i)) none = if 0 ≤ i ∧ i ≤ b.length then some (.str (b.take i.toNat)) else none := by
  simp only [sliceA, tk9, boundA, Option.isSome_none, Bool.false_eq_true, if_false, Option.bind_some]
  split
  · rfl
  · rfl
theorem finish_s (k : Bool) (xs : List Arg) (t : Nat) (env : Env) (s : St) (v : List UInt8) (os : List (List AV)) (hv : env t = .str v) (ho : outsA s 0 xs = some os) :
    finishP Tryd.prog k xs #[.tmp t] env s = some (.tree (.str v), os) := finish_tree _ _ _ _ _ _ (.str v) _ _ hv rfl ho
set_option maxHeartbeats 4000000 in
theorem trimLB_eq (n d : Nat) (l : List UInt8) (c : UInt8) (hn : l.length < n) : evalFn Tryd.prog cfg0 n (d+1) 81 [.tree (.str l), .tree (.int .u8 (c.toNat : Int))] = some (.tree (.str (l.dropWhile (· == c))), [[], []]) := by
  rw [evalFn_go _ Tryd.func81 (by unfold Tryd.f81; rfl) (by unfold Tryd.f81; decide) (Nat.le_of_ble_eq_true (by unfold Tryd.f81; rfl)) (by kernel_rfl)]
  simp only [zaa, zab, zac, zad, zae, zaf, zag, zah, zai, zaj, zak, zal, zam, zan, zao, zap, zaq, zar, zas, zat, zau, zav, zaw, zax, zay, zaz, zba, zbb, zbc, zbd, zbe, zbf, zbg, zbh, zbi, zbj, Nat.reduceBEq, Bool.or_self, Bool.or_false, Bool.or_true, Bool.and_true, Bool.and_false, Bool.true_and, Bool.false_and, Option.isNone_none, Option.isNone_some, Option.isSome_some, Option.isSome_none, zbk, zbl, zbm, zbn, zbo, zbp, zbq, zbr, zbs, zbt, zbu, zbv, zbw, zbx, zby, zbz, zca, zcb, zcc, zcd, zce, zcf, zcg, zch, zci, zcj, zck, zcl, zcm, zcn, zco, zcp, zcq, zcr, zcs, zct, zcu, zcv, zcw, zcx, zcy, zcz, zda, zdb, zdc, zdd, zde, zdf, Option.getD_some, Option.getD_none, zet, zeu, zev, zew, zex, zey, zez, zfa, Option.map_some, Option.map_none, Option.bind_some, List.map_cons, List.map_nil, List.cons_append, List.nil_append, ↓reduceIte, Nat.reduceEqDiff, Nat.reduceAdd, decide_true, decide_false, Bool.true_eq_false, Bool.false_eq_true, env0, List.getElem?_cons_zero, List.getElem?_cons_succ, zdg, zdh, zdi, zdj, zdk, zdl, zdm, zdn, ia22, ld31, zdo, zdp, zeg, List.toList_toArray, len9, ix9, zeh, zei, zej, zek, zel, den_loop]
  refine loop_ends (X := List UInt8) (fun x env s => env 0 = .str x ∧ env 1 = .int .u8 (c.toNat : Int) ∧ x.dropWhile (· == c) = l.dropWhile (· == c)) (fun x => x.length) (fun _ => (.tree (.str (l.dropWhile (· == c))), [[], []])) ?_ n l _ _ (by omega) ⟨rfl, rfl, rfl⟩
  intro k x hx ih env s ⟨e0, e1, hd⟩
  cases x with
  | nil =>
    have q0 : ¬ (((([] : List UInt8)).length : Nat) : Int) > 0 := by decide
    simp only [zaa, zab, zac, zad, zae, zaf, zag, zah, zai, zaj, zak, zal, zam, zan, zao, zap, zaq, zar, zas, zat, zau, zav, zaw, zax, zay, zaz, zba, zbb, zbc, zbd, zbe, zbf, zbg, zbh, zbi, zbj, Nat.reduceBEq, Bool.or_self, Bool.or_false, Bool.or_true, Bool.and_true, Bool.and_false, Bool.true_and, Bool.false_and, Option.isNone_none, Option.isNone_some, Option.isSome_some, Option.isSome_none, zbk, zbl, zbm, zbn, zbo, zbp, zbq, zbr, zbs, zbt, zbu, zbv, zbw, zbx, zby, zbz, zca, zcb, zcc, zcd, zce, zcf, zcg, zch, zci, zcj, zck, zcl, zcm, zcn, zco, zcp, zcq, zcr, zcs, zct, zcu, zcv, zcw, zcx, zcy, zcz, zda, zdb, zdc, zdd, zde, zdf, Option.getD_some, Option.getD_none, zet, zeu, zev, zew, zex, zey, zez, zfa, Option.map_some, Option.map_none, Option.bind_some, List.map_cons, List.map_nil, List.cons_append, List.nil_append, ↓reduceIte, Nat.reduceEqDiff, Nat.reduceAdd, decide_true, decide_false, Bool.true_eq_false, Bool.false_eq_true, zdg, zdh, zdi, zdj, zdk, zdl, zdm, zdn, ia22, ld31, zdo, zdp, zeg, List.toList_toArray, len9, ix9, zeh, zei, zej, zek, zel, e0, e1, q0]
    rw [← hd]
    exact finish_s _ _ _ _ _ _ _ (by simp only [zfa, ↓reduceIte, Nat.reduceEqDiff]; rfl) rfl
  | cons a r =>
    have q0 : (((a :: r).length : Nat) : Int) > 0 := by simp only [List.length_cons]; omega
    have q1 : (0 : Int) ≤ 0 ∧ (0 : Int) < (((a :: r).length : Nat) : Int) := ⟨Int.le_refl _, q0⟩
    have q2 : (a :: r).getD (0 : Int).toNat 0 = a := rfl
    have q3 : ((a.toNat : Int) == (c.toNat : Int)) = (a == c) := by
      rw [Bool.eq_iff_iff, beq_iff_eq, beq_iff_eq]
      exact ⟨fun h => UInt8.toNat_inj.mp (by omega), fun h => by rw [h]⟩
    by_cases hc : (a == c) = true
    · have q4 : (0 : Int) ≤ 1 ∧ (1 : Int) ≤ (((a :: r).length : Nat) : Int) := by omega
      have q5 : (a :: r).drop (1 : Int).toNat = r := rfl
      simp only [zaa, zab, zac, zad, zae, zaf, zag, zah, zai, zaj, zak, zal, zam, zan, zao, zap, zaq, zar, zas, zat, zau, zav, zaw, zax, zay, zaz, zba, zbb, zbc, zbd, zbe, zbf, zbg, zbh, zbi, zbj, Nat.reduceBEq, Bool.or_self, Bool.or_false, Bool.or_true, Bool.and_true, Bool.and_false, Bool.true_and, Bool.false_and, Option.isNone_none, Option.isNone_some, Option.isSome_some, Option.isSome_none, zbk, zbl, zbm, zbn, zbo, zbp, zbq, zbr, zbs, zbt, zbu, zbv, zbw, zbx, zby, zbz, zca, zcb, zcc, zcd, zce, zcf, zcg, zch, zci, zcj, zck, zcl, zcm, zcn, zco, zcp, zcq, zcr, zcs, zct, zcu, zcv, zcw, zcx, zcy, zcz, zda, zdb, zdc, zdd, zde, zdf, Option.getD_some, Option.getD_none, zet, zeu, zev, zew, zex, zey, zez, zfa, Option.map_some, Option.map_none, Option.bind_some, List.map_cons, List.map_nil, List.cons_append, List.nil_append, ↓reduceIte, Nat.reduceEqDiff, Nat.reduceAdd, decide_true, decide_false, Bool.true_eq_false, Bool.false_eq_true, zdg, zdh, zdi, zdj, zdk, zdl, zdm, zdn, ia22, ld31, zdo, zdp, zeg, List.toList_toArray, len9, ix9, zeh, zei, zej, zek, zel, e0, e1, q0, q1, and_self, q2, q3, hc, q4, q5]
      refine ih r _ _ (by simp only [List.length_cons]; omega) rfl ⟨?_, ?_, ?_⟩
      · simp only [zfa, ↓reduceIte, Nat.reduceEqDiff]
      · simp only [zfa, ↓reduceIte, Nat.reduceEqDiff, e1]
      · rw [← hd, List.dropWhile_cons, if_pos hc]
    · rw [Bool.not_eq_true] at hc
      simp only [zaa, zab, zac, zad, zae, zaf, zag, zah, zai, zaj, zak, zal, zam, zan, zao, zap, zaq, zar, zas, zat, zau, zav, zaw, zax, zay, zaz, zba, zbb, zbc, zbd, zbe, zbf, zbg, zbh, zbi, zbj, Nat.reduceBEq, Bool.or_self, Bool.or_false, Bool.or_true, Bool.and_true, Bool.and_false, Bool.true_and, Bool.false_and, Option.isNone_none, Option.isNone_some, Option.isSome_some, Option.isSome_none, zbk, zbl, zbm, zbn, zbo, zbp, zbq, zbr, zbs, zbt, zbu, zbv, zbw, zbx, zby, zbz, zca, zcb, zcc, zcd, zce, zcf, zcg, zch, zci, zcj, zck, zcl, zcm, zcn, zco, zcp, zcq, zcr, zcs, zct, zcu, zcv, zcw, zcx, zcy, zcz, zda, zdb, zdc, zdd, zde, zdf, Option.getD_some, Option.getD_none, zet, zeu, zev, zew, zex, zey, zez, zfa, Option.map_some, Option.map_none, Option.bind_some, List.map_cons, List.map_nil, List.cons_append, List.nil_append, ↓reduceIte, Nat.reduceEqDiff, Nat.reduceAdd, decide_true, decide_false, Bool.true_eq_false, Bool.false_eq_true, zdg, zdh, zdi, zdj, zdk, zdl, zdm, zdn, ia22, ld31, zdo, zdp, zeg, List.toList_toArray, len9, ix9, zeh, zei, zej, zek, zel, e0, e1, q0, q1, and_self, q2, q3, hc]
      rw [← hd, List.dropWhile_cons, hc]
      exact finish_s _ _ _ _ _ _ _ (by simp only [zfa, ↓reduceIte, Nat.reduceEqDiff]; rfl) rfl
set_option maxHeartbeats 4000000 in
theorem trimL0_eq (n d : Nat) (l : List UInt8) (hn : l.length < n) : evalFn Tryd.prog cfg0 n (d+2) 61 [.tree (.str l), .tree (.str [48])] = some (.tree (.str (l.dropWhile (· == 48))), [[], []]) := by
  rw [evalFn_go _ Tryd.func61 (by unfold Tryd.f61; rfl) (by unfold Tryd.f61; decide) (Nat.le_of_ble_eq_true (by unfold Tryd.f61; rfl)) (by kernel_rfl)]
  have c1 := fun D s => callA_trees (cfg := cfg0) (d := D) (s := s) (f := 81) (vs := [.str l, .int .u8 (((48 : UInt8).toNat : Nat) : Int)]) rfl (trimLB_eq n d l 48 hn)
  have q1 : (([48] : List UInt8) == []) = false := rfl
  have q2 : ((([48] : List UInt8).length : Int) == 1) = true := rfl
  have q3 : (0 : Int) ≤ 0 ∧ (0 : Int) < ((([48] : List UInt8).length : Nat) : Int) := by decide
  have q4 : ([48] : List UInt8).getD (0 : Int).toNat 0 = 48 := rfl
  have q5 : (((48 : UInt8).toNat : Nat) : Int) < 128 := by decide
  cases l with
  | nil =>
    have q0 : (([] : List UInt8) == []) = true := rfl
    simp only [zaa, zab, zac, zad, zae, zaf, zag, zah, zai, zaj, zak, zal, zam, zan, zao, zap, zaq, zar, zas, zat, zau, zav, zaw, zax, zay, zaz, zba, zbb, zbc, zbd, zbe, zbf, zbg, zbh, zbi, zbj, Nat.reduceBEq, Bool.or_self, Bool.or_false, Bool.or_true, Bool.and_true, Bool.and_false, Bool.true_and, Bool.false_and, Option.isNone_none, Option.isNone_some, Option.isSome_some, Option.isSome_none, zbk, zbl, zbm, zbn, zbo, zbp, zbq, zbr, zbs, zbt, zbu, zbv, zbw, zbx, zby, zbz, zca, zcb, zcc, zcd, zce, zcf, zcg, zch, zci, zcj, zck, zcl, zcm, zcn, zco, zcp, zcq, zcr, zcs, zct, zcu, zcv, zcw, zcx, zcy, zcz, zda, zdb, zdc, zdd, zde, zdf, Option.getD_some, Option.getD_none, zet, zeu, zev, zew, zex, zey, zez, zfa, Option.map_some, Option.map_none, Option.bind_some, List.map_cons, List.map_nil, List.cons_append, List.nil_append, ↓reduceIte, Nat.reduceEqDiff, Nat.reduceAdd, decide_true, decide_false, Bool.true_eq_false, Bool.false_eq_true, env0, List.getElem?_cons_zero, List.getElem?_cons_succ, zdg, zdh, zdi, zdj, zdk, zdl, zdm, zdn, ia22, ld31, zdo, zdp, zeg, List.toList_toArray, len9, ix9, zeh, zei, zej, zek, zel, q0]
    exact finish_s _ _ _ _ _ _ _ (by simp only [zfa, ↓reduceIte, Nat.reduceEqDiff]; rfl) rfl
  | cons a r =>
    have q0 : ((a :: r : List UInt8) == []) = false := rfl
    simp only [zaa, zab, zac, zad, zae, zaf, zag, zah, zai, zaj, zak, zal, zam, zan, zao, zap, zaq, zar, zas, zat, zau, zav, zaw, zax, zay, zaz, zba, zbb, zbc, zbd, zbe, zbf, zbg, zbh, zbi, zbj, Nat.reduceBEq, Bool.or_self, Bool.or_false, Bool.or_true, Bool.and_true, Bool.and_false, Bool.true_and, Bool.false_and, Option.isNone_none, Option.isNone_some, Option.isSome_some, Option.isSome_none, zbk, zbl, zbm, zbn, zbo, zbp, zbq, zbr, zbs, zbt, zbu, zbv, zbw, zbx, zby, zbz, zca, zcb, zcc, zcd, zce, zcf, zcg, zch, zci, zcj, zck, zcl, zcm, zcn, zco, zcp, zcq, zcr, zcs, zct, zcu, zcv, zcw, zcx, zcy, zcz, zda, zdb, zdc, zdd, zde, zdf, Option.getD_some, Option.getD_none, zet, zeu, zev, zew, zex, zey, zez, zfa, Option.map_some, Option.map_none, Option.bind_some, List.map_cons, List.map_nil, List.cons_append, List.nil_append, ↓reduceIte, Nat.reduceEqDiff, Nat.reduceAdd, decide_true, decide_false, Bool.true_eq_false, Bool.false_eq_true, env0, List.getElem?_cons_zero, List.getElem?_cons_succ, zdg, zdh, zdi, zdj, zdk, zdl, zdm, zdn, ia22, ld31, zdo, zdp, zeg, List.toList_toArray, len9, ix9, zeh, zei, zej, zek, zel, q0, q1, q2, q3, and_self, q4, q5, c1]
    exact finish_s _ _ _ _ _ _ _ (by simp only [zfa, ↓reduceIte, Nat.reduceEqDiff]) rfl
set_option maxHeartbeats 4000000 in
theorem hasPre_eq (n d : Nat) (l : List UInt8) : evalFn Tryd.prog cfg0 n (d+1) 92 [.tree (.str l), .tree (.str [45])] = some (.tree (.bool (cutS l).1), [[], []]) := by
  rw [evalFn_go _ Tryd.func92 (by unfold Tryd.f92; rfl) (by unfold Tryd.f92; decide) (Nat.le_of_ble_eq_true (by unfold Tryd.f92; rfl)) (by kernel_rfl)]
  cases l with
  | nil =>
    have q0 : ¬ (((([] : List UInt8)).length : Nat) : Int) ≥ ((([45] : List UInt8).length : Nat) : Int) := by decide
    simp only [zaa, zab, zac, zad, zae, zaf, zag, zah, zai, zaj, zak, zal, zam, zan, zao, zap, zaq, zar, zas, zat, zau, zav, zaw, zax, zay, zaz, zba, zbb, zbc, zbd, zbe, zbf, zbg, zbh, zbi, zbj, Nat.reduceBEq, Bool.or_self, Bool.or_false, Bool.or_true, Bool.and_true, Bool.and_false, Bool.true_and, Bool.false_and, Option.isNone_none, Option.isNone_some, Option.isSome_some, Option.isSome_none, zbk, zbl, zbm, zbn, zbo, zbp, zbq, zbr, zbs, zbt, zbu, zbv, zbw, zbx, zby, zbz, zca, zcb, zcc, zcd, zce, zcf, zcg, zch, zci, zcj, zck, zcl, zcm, zcn, zco, zcp, zcq, zcr, zcs, zct, zcu, zcv, zcw, zcx, zcy, zcz, zda, zdb, zdc, zdd, zde, zdf, Option.getD_some, Option.getD_none, zet, zeu, zev, zew, zex, zey, zez, zfa, Option.map_some, Option.map_none, Option.bind_some, List.map_cons, List.map_nil, List.cons_append, List.nil_append, ↓reduceIte, Nat.reduceEqDiff, Nat.reduceAdd, decide_true, decide_false, Bool.true_eq_false, Bool.false_eq_true, env0, List.getElem?_cons_zero, List.getElem?_cons_succ, zdg, zdh, zdi, zdj, zdk, zdl, zdm, zdn, ia22, ld31, zdo, zdp, zeg, List.toList_toArray, len9, ix9, zeh, zei, zej, zek, zel, q0]
    exact finish_b _ _ _ _ _ _ _ (by simp only [zfa, ↓reduceIte, Nat.reduceEqDiff]; rfl) rfl
  | cons a r =>
    have q0 : (((a :: r).length : Nat) : Int) ≥ ((([45] : List UInt8).length : Nat) : Int) := by simp only [List.length_cons, List.length_nil]; omega
    have q1 : (0 : Int) ≤ ((([45] : List UInt8).length : Nat) : Int) ∧ ((([45] : List UInt8).length : Nat) : Int) ≤ (((a :: r).length : Nat) : Int) := ⟨by decide, q0⟩
    have q2 : ((a :: r).take (((([45] : List UInt8).length : Nat) : Int)).toNat == [45]) = (cutS (a :: r)).1 := by
      show ([a] == [45]) = _
      unfold cutS
      by_cases h : a = 45
      · subst h; rfl
      · show ([a] == [45]) = (if a = 45 then (true, r) else (false, a :: r)).1
        rw [if_neg h]
        simp [h]
    simp only [zaa, zab, zac, zad, zae, zaf, zag, zah, zai, zaj, zak, zal, zam, zan, zao, zap, zaq, zar, zas, zat, zau, zav, zaw, zax, zay, zaz, zba, zbb, zbc, zbd, zbe, zbf, zbg, zbh, zbi, zbj, Nat.reduceBEq, Bool.or_self, Bool.or_false, Bool.or_true, Bool.and_true, Bool.and_false, Bool.true_and, Bool.false_and, Option.isNone_none, Option.isNone_some, Option.isSome_some, Option.isSome_none, zbk, zbl, zbm, zbn, zbo, zbp, zbq, zbr, zbs, zbt, zbu, zbv, zbw, zbx, zby, zbz, zca, zcb, zcc, zcd, zce, zcf, zcg, zch, zci, zcj, zck, zcl, zcm, zcn, zco, zcp, zcq, zcr, zcs, zct, zcu, zcv, zcw, zcx, zcy, zcz, zda, zdb, zdc, zdd, zde, zdf, Option.getD_some, Option.getD_none, zet, zeu, zev, zew, zex, zey, zez, zfa, Option.map_some, Option.map_none, Option.bind_some, List.map_cons, List.map_nil, List.cons_append, List.nil_append, ↓reduceIte, Nat.reduceEqDiff, Nat.reduceAdd, decide_true, decide_false, Bool.true_eq_false, Bool.false_eq_true, env0, List.getElem?_cons_zero, List.getElem?_cons_succ, zdg, zdh, zdi, zdj, zdk, zdl, zdm, zdn, ia22, ld31, zdo, zdp, zeg, List.toList_toArray, len9, ix9, zeh, zei, zej, zek, zel, q0, q1, and_self, q2]
    exact finish_b _ _ _ _ _ _ _ (by simp only [zfa, ↓reduceIte, Nat.reduceEqDiff]) rfl
theorem cut_len (l : List UInt8) (h : (cutS l).1 = true) : (cutS l).2 = l.drop 1 ∧ 1 ≤ l.length := by
  unfold cutS at h ⊢
  cases l with
  | nil => cases h
  | cons a r =>
    simp only at h ⊢
    by_cases ha : a = 45
    · rw [if_pos ha]; exact ⟨rfl, by simp⟩
    · rw [if_neg ha] at h; cases h
theorem cut_no (l : List UInt8) (h : (cutS l).1 = false) : (cutS l).2 = l := by
  unfold cutS at h ⊢
  cases l with
  | nil => rfl
  | cons a r =>
    simp only at h ⊢
    by_cases ha : a = 45
    · rw [if_pos ha] at h; cases h
    · rw [if_neg ha]
theorem finish_sb (k : Bool) (xs : List Arg) (t t' : Nat) (env : Env) (s : St) (v : List UInt8) (b : Bool) (os : List (List AV)) (hv : env t = .str v) (hb : env t' = .bool b) (ho : outsA s 0 xs = some os) :
    finishP Tryd.prog k xs #[.tmp t, .tmp t'] env s = some (.tree (.tup [.str v, .bool b]), os) := by
  simp only [finishP_t2, finish, List.mapM_cons, List.mapM_nil, hv, hb, Option.pure_def, Option.bind_eq_bind, Option.bind_some, settleL, settle, Option.map_some, ho]
set_option maxHeartbeats 4000000 in
theorem cutL_eq (n d : Nat) (l : List UInt8) : evalFn Tryd.prog cfg0 n (d+2) 80 [.tree (.str l), .tree (.str [45])] = some (.tree (.tup [.str (cutS l).2, .bool (cutS l).1]), [[], []]) := by
  rw [evalFn_go _ Tryd.func80 (by unfold Tryd.f80; rfl) (by unfold Tryd.f80; decide) (Nat.le_of_ble_eq_true (by unfold Tryd.f80; rfl)) (by kernel_rfl)]
  have c1 := fun D s => callA_trees (cfg := cfg0) (d := D) (s := s) (f := 92) (vs := [.str l, .str [45]]) rfl (hasPre_eq n d l)
  cases h : (cutS l).1 with
  | true =>
    obtain ⟨h1, h2⟩ := cut_len l h
    rw [h] at c1
    have q1 : (0 : Int) ≤ ((([45] : List UInt8).length : Nat) : Int) ∧ ((([45] : List UInt8).length : Nat) : Int) ≤ ((l.length : Nat) : Int) := by simp only [List.length_cons, List.length_nil]; omega
    have q2 : l.drop (((([45] : List UInt8).length : Nat) : Int)).toNat = (cutS l).2 := h1.symm
    simp only [zaa, zab, zac, zad, zae, zaf, zag, zah, zai, zaj, zak, zal, zam, zan, zao, zap, zaq, zar, zas, zat, zau, zav, zaw, zax, zay, zaz, zba, zbb, zbc, zbd, zbe, zbf, zbg, zbh, zbi, zbj, Nat.reduceBEq, Bool.or_self, Bool.or_false, Bool.or_true, Bool.and_true, Bool.and_false, Bool.true_and, Bool.false_and, Option.isNone_none, Option.isNone_some, Option.isSome_some, Option.isSome_none, zbk, zbl, zbm, zbn, zbo, zbp, zbq, zbr, zbs, zbt, zbu, zbv, zbw, zbx, zby, zbz, zca, zcb, zcc, zcd, zce, zcf, zcg, zch, zci, zcj, zck, zcl, zcm, zcn, zco, zcp, zcq, zcr, zcs, zct, zcu, zcv, zcw, zcx, zcy, zcz, zda, zdb, zdc, zdd, zde, zdf, Option.getD_some, Option.getD_none, zet, zeu, zev, zew, zex, zey, zez, zfa, Option.map_some, Option.map_none, Option.bind_some, List.map_cons, List.map_nil, List.cons_append, List.nil_append, ↓reduceIte, Nat.reduceEqDiff, Nat.reduceAdd, decide_true, decide_false, Bool.true_eq_false, Bool.false_eq_true, env0, List.getElem?_cons_zero, List.getElem?_cons_succ, zdg, zdh, zdi, zdj, zdk, zdl, zdm, zdn, ia22, ld31, zdo, zdp, zeg, List.toList_toArray, len9, ix9, zeh, zei, zej, zek, zel, c1, unA_not', Bool.not_true, q1, and_self, q2]
    exact finish_sb _ _ _ _ _ _ _ _ _ (by simp only [zfa, ↓reduceIte, Nat.reduceEqDiff]) (by simp only [zfa, ↓reduceIte, Nat.reduceEqDiff]) rfl
  | false =>
    rw [h] at c1
    rw [cut_no l h]
    simp only [zaa, zab, zac, zad, zae, zaf, zag, zah, zai, zaj, zak, zal, zam, zan, zao, zap, zaq, zar, zas, zat, zau, zav, zaw, zax, zay, zaz, zba, zbb, zbc, zbd, zbe, zbf, zbg, zbh, zbi, zbj, Nat.reduceBEq, Bool.or_self, Bool.or_false, Bool.or_true, Bool.and_true, Bool.and_false, Bool.true_and, Bool.false_and, Option.isNone_none, Option.isNone_some, Option.isSome_some, Option.isSome_none, zbk, zbl, zbm, zbn, zbo, zbp, zbq, zbr, zbs, zbt, zbu, zbv, zbw, zbx, zby, zbz, zca, zcb, zcc, zcd, zce, zcf, zcg, zch, zci, zcj, zck, zcl, zcm, zcn, zco, zcp, zcq, zcr, zcs, zct, zcu, zcv, zcw, zcx, zcy, zcz, zda, zdb, zdc, zdd, zde, zdf, Option.getD_some, Option.getD_none, zet, zeu, zev, zew, zex, zey, zez, zfa, Option.map_some, Option.map_none, Option.bind_some, List.map_cons, List.map_nil, List.cons_append, List.nil_append, ↓reduceIte, Nat.reduceEqDiff, Nat.reduceAdd, decide_true, decide_false, Bool.true_eq_false, Bool.false_eq_true, env0, List.getElem?_cons_zero, List.getElem?_cons_succ, zdg, zdh, zdi, zdj, zdk, zdl, zdm, zdn, ia22, ld31, zdo, zdp, zeg, List.toList_toArray, len9, ix9, zeh, zei, zej, zek, zel, c1, unA_not', Bool.not_false]
    exact finish_sb _ _ _ _ _ _ _ _ _ (by simp only [zfa, ↓reduceIte, Nat.reduceEqDiff]) (by simp only [zfa, ↓reduceIte, Nat.reduceEqDiff]) rfl
set_option maxHeartbeats 4000000 in
theorem cutP_eq (n d : Nat) (l : List UInt8) : evalFn Tryd.prog cfg0 n (d+3) 57 [.tree (.str l), .tree (.str [45])] = some (.tree (.tup [.str (cutS l).2, .bool (cutS l).1]), [[], []]) := by
  rw [evalFn_go _ Tryd.func57 (by unfold Tryd.f57; rfl) (by unfold Tryd.f57; decide) (Nat.le_of_ble_eq_true (by unfold Tryd.f57; rfl)) (by kernel_rfl)]
  have c1 := fun D s => callA_trees (cfg := cfg0) (d := D) (s := s) (f := 80) (vs := [.str l, .str [45]]) rfl (cutL_eq n d l)
  simp only [zaa, zab, zac, zad, zae, zaf, zag, zah, zai, zaj, zak, zal, zam, zan, zao, zap, zaq, zar, zas, zat, zau, zav, zaw, zax, zay, zaz, zba, zbb, zbc, zbd, zbe, zbf, zbg, zbh, zbi, zbj, Nat.reduceBEq, Bool.or_self, Bool.or_false, Bool.or_true, Bool.and_true, Bool.and_false, Bool.true_and, Bool.false_and, Option.isNone_none, Option.isNone_some, Option.isSome_some, Option.isSome_none, zbk, zbl, zbm, zbn, zbo, zbp, zbq, zbr, zbs, zbt, zbu, zbv, zbw, zbx, zby, zbz, zca, zcb, zcc, zcd, zce, zcf, zcg, zch, zci, zcj, zck, zcl, zcm, zcn, zco, zcp, zcq, zcr, zcs, zct, zcu, zcv, zcw, zcx, zcy, zcz, zda, zdb, zdc, zdd, zde, zdf, Option.getD_some, Option.getD_none, zet, zeu, zev, zew, zex, zey, zez, zfa, Option.map_some, Option.map_none, Option.bind_some, List.map_cons, List.map_nil, List.cons_append, List.nil_append, ↓reduceIte, Nat.reduceEqDiff, Nat.reduceAdd, decide_true, decide_false, Bool.true_eq_false, Bool.false_eq_true, env0, List.getElem?_cons_zero, List.getElem?_cons_succ, zdg, zdh, zdi, zdj, zdk, zdl, zdm, zdn, ia22, ld31, zdo, zdp, zeg, List.toList_toArray, len9, ix9, zeh, zei, zej, zek, zel, c1]
  exact finish_sb _ _ _ _ _ _ _ _ _ (by simp only [zfa, ↓reduceIte, Nat.reduceEqDiff]) (by simp only [zfa, ↓reduceIte, Nat.reduceEqDiff]) rfl
end Go.Ab

/- strings.Trim by the digits. Conditions: lengths in range. -/
namespace Go.Ab
open Go.Proofs
set_option maxRecDepth 100000
set_option linter.unusedSimpArgs false

def dgs : List UInt8 := [48, 49, 50, 51, 52, 53, 54, 55, 56, 57]
def setD : List AV := (List.range 256).map fun i => .bool (decide (48 ≤ i) && decide (i ≤ 57))
theorem setD_len : setD.length = 256 := by simp [setD]
theorem setD_at (c : UInt8) : setD[c.toNat]? = some (.bool (isDg c)) := by
  have h : c.toNat < 256 := UInt8.toNat_lt c
  simp [setD, isDg, h]
theorem mkSet_eq (d : Nat) : evalFn Tryd.prog cfg0 100000 (d+1) 83 [.tree (.str dgs)] = some (.tree (.tup [.agg setD, .bool true]), [[]]) := by kernel_rfl
theorem tk78 : tkOf Tryd.prog 78 = .arr 256 4 := by kernel_rfl
theorem esz78 : esz Tryd.prog 78 = some 256 := by kernel_rfl
theorem zero78 : zeroOf Tryd.prog 78 = some (List.replicate 256 (.bool false)) := by kernel_rfl
def nilE (s : St) : AV → Option (AV × St)
  | .ptr p t off => if live s p t then some (.ptr p t off, s) else none
  | .rptr xs => some (.rptr xs, s)
  | _ => none
theorem opA_nilc {P : Program} {cfg : Cfg} {call : FuncId → List Arg → Option Out} {q : Bool} {d : Option Tmp} {ty : TypeId} {pos : String} {af : Array Edge} {g : Option (Nat × Bool)} {t : Nat} {env : Env} {s : St} (x : Operand) : opA P cfg call q ⟨d, .nilCheck x, ty, pos, af, g⟩ t env s = nilE s (ev env x) := by
  simp only [opA, nilE]
  cases ev env x <;> rfl
theorem nilE_ptr (s : St) (p t off : Nat) : nilE s (.ptr p t off) = if (cellsE (s p) t).isSome = true then some (.ptr p t off, s) else none := by simp only [nilE, live, cellsAt_E]
def ia78 (e : Ent) (p k : Nat) (i : Int) : Option AV := if (cellsE e k).isSome = true ∧ 0 ≤ i ∧ i < 256 then some (.ptr p k i.toNat) else none
theorem ia_78 (s : St) (p k : Nat) (kd : IntKind) (i : Int) : indexAddrA Tryd.prog 78 s (.ptr p k 0) (.int kd i) = ia78 (s p) p k i := by
  simp only [indexAddrA, tk78, esz4, Option.bind_some, live, cellsAt_E, ia78, Nat.zero_add, Nat.mul_one]; rfl
theorem ld_4at (s : St) (p t off : Nat) (xs : List AV) (h : s p = ⟨t, .buf xs⟩) : loadA Tryd.prog 4 s (.ptr p t off) = xs[off]? := by
  rw [zdx, h, ldE, cellsE_buf, if_pos rfl]
  simp only [Option.bind_some, partA, sh4]
set_option maxHeartbeats 4000000 in
theorem contains_eq (n d : Nat) (c : UInt8) : evalFn Tryd.prog cfg0 n (d+1) 93 [.ptr setD 0, .tree (.int .u8 (c.toNat : Int))] = some (.tree (.bool (isDg c)), [setD, []]) := by
  rw [evalFn_go _ Tryd.func93 (by unfold Tryd.f93; rfl) (by unfold Tryd.f93; decide) (Nat.le_of_ble_eq_true (by unfold Tryd.f93; rfl)) (by kernel_rfl)]
  have h : c.toNat < 256 := UInt8.toNat_lt c
  have s0 : st0 [.ptr setD 0, .tree (.int .u8 (c.toNat : Int))] 0 = ⟨0, .buf setD⟩ := rfl
  have i1 : ia78 ⟨0, .buf setD⟩ 0 0 (c.toNat : Int) = some (.ptr 0 0 c.toNat) := by
    rw [ia78, cellsE_buf, if_pos rfl, if_pos ⟨rfl, by omega, by omega⟩, Int.toNat_natCast]
  have l1 := ld_4at _ 0 0 c.toNat setD s0
  rw [setD_at] at l1
  simp only [zaa, zab, zac, zad, zae, zaf, zag, zah, zai, zaj, zak, zal, zam, zan, zao, zap, zaq, zar, zas, zat, zau, zav, zaw, zax, zay, zaz, zba, zbb, zbc, zbd, zbe, zbf, zbg, zbh, zbi, zbj, Nat.reduceBEq, Bool.or_self, Bool.or_false, Bool.or_true, Bool.and_true, Bool.and_false, Bool.true_and, Bool.false_and, Option.isNone_none, Option.isNone_some, Option.isSome_some, Option.isSome_none, zbk, zbl, zbm, zbn, zbo, zbp, zbq, zbr, zbs, zbt, zbu, zbv, zbw, zbx, zby, zbz, zca, zcb, zcc, zcd, zce, zcf, zcg, zch, zci, zcj, zck, zcl, zcm, zcn, zco, zcp, zcq, zcr, zcs, zct, zcu, zcv, zcw, zcx, zcy, zcz, zda, zdb, zdc, zdd, zde, zdf, Option.getD_some, Option.getD_none, zet, zeu, zev, zew, zex, zey, zez, zfa, Option.map_some, Option.map_none, Option.bind_some, List.map_cons, List.map_nil, List.cons_append, List.nil_append, ↓reduceIte, Nat.reduceEqDiff, Nat.reduceAdd, decide_true, decide_false, Bool.true_eq_false, Bool.false_eq_true, env0, List.getElem?_cons_zero, List.getElem?_cons_succ, zdg, zdh, zdi, zdj, zdk, zdl, zdm, zdn, ia22, ld31, zdo, zdp, zeg, List.toList_toArray, len9, ix9, zeh, zei, zej, zek, zel, opA_nilc, nilE_ptr, s0, cellsE_buf, Option.isSome_some, ia_78, i1, l1]
  exact finish_tree _ _ _ _ _ _ (.bool (isDg c)) _ _ (by simp only [zfa, ↓reduceIte, Nat.reduceEqDiff]) rfl rfl
theorem upd_eqv {α : Type} (f : Nat → α) (p : Nat) (v : α) (h : f p = v) : upd f p v = f := by
  funext j
  unfold upd
  split
  · rename_i hj; rw [hj, h]
  · rfl
theorem callA_ps {cfg : Cfg} {call : FuncId → List Arg → Option Out} {D : Nat} {s : St} {f : FuncId} {p t off : Nat} {xs : List AV} {kd : IntKind} {z : Int} {r : AV} (hs : s p = ⟨t, .buf xs⟩) (hc : call f [.ptr xs off, .tree (.int kd z)] = some (.tree r, [xs, []])) :
    callA cfg call D s f [.ptr p t off, .int kd z] = some (r, s) := by
  have hu := upd_eqv s p _ hs
  simp [callA, argsA, argA, hs, givesL, givesOf, lendsL, lendsOf, hc, backA, resA, hu]
theorem callA_sp {cfg : Cfg} {call : FuncId → List Arg → Option Out} {D : Nat} {s : St} {f : FuncId} {p t off : Nat} {xs : List AV} {l : List UInt8} {r : AV} (hs : s p = ⟨t, .buf xs⟩) (hc : call f [.tree (.str l), .ptr xs off] = some (.tree r, [[], xs])) :
    callA cfg call D s f [.str l, .ptr p t off] = some (r, s) := by
  have hu := upd_eqv s p _ hs
  simp [callA, argsA, argA, hs, givesL, givesOf, lendsL, lendsOf, hc, backA, resA, hu]
set_option maxHeartbeats 4000000 in
theorem trimLA_eq (n d : Nat) (l : List UInt8) (hn : l.length < n) : evalFn Tryd.prog cfg0 n (d+2) 84 [.tree (.str l), .ptr setD 0] = some (.tree (.str (l.dropWhile isDg)), [[], setD]) := by
  rw [evalFn_go _ Tryd.func84 (by unfold Tryd.f84; rfl) (by unfold Tryd.f84; decide) (Nat.le_of_ble_eq_true (by unfold Tryd.f84; rfl)) (by kernel_rfl)]
  simp only [zaa, zab, zac, zad, zae, zaf, zag, zah, zai, zaj, zak, zal, zam, zan, zao, zap, zaq, zar, zas, zat, zau, zav, zaw, zax, zay, zaz, zba, zbb, zbc, zbd, zbe, zbf, zbg, zbh, zbi, zbj, Nat.reduceBEq, Bool.or_self, Bool.or_false, Bool.or_true, Bool.and_true, Bool.and_false, Bool.true_and, Bool.false_and, Option.isNone_none, Option.isNone_some, Option.isSome_some, Option.isSome_none, zbk, zbl, zbm, zbn, zbo, zbp, zbq, zbr, zbs, zbt, zbu, zbv, zbw, zbx, zby, zbz, zca, zcb, zcc, zcd, zce, zcf, zcg, zch, zci, zcj, zck, zcl, zcm, zcn, zco, zcp, zcq, zcr, zcs, zct, zcu, zcv, zcw, zcx, zcy, zcz, zda, zdb, zdc, zdd, zde, zdf, Option.getD_some, Option.getD_none, zet, zeu, zev, zew, zex, zey, zez, zfa, Option.map_some, Option.map_none, Option.bind_some, List.map_cons, List.map_nil, List.cons_append, List.nil_append, ↓reduceIte, Nat.reduceEqDiff, Nat.reduceAdd, decide_true, decide_false, Bool.true_eq_false, Bool.false_eq_true, env0, List.getElem?_cons_zero, List.getElem?_cons_succ, zdg, zdh, zdi, zdj, zdk, zdl, zdm, zdn, ia22, ld31, zdo, zdp, zeg, List.toList_toArray, len9, ix9, zeh, zei, zej, zek, zel, den_loop]
  refine loop_ends (X := List UInt8) (fun x env s => env 0 = .str x ∧ env 1 = .ptr 1 0 0 ∧ s 1 = ⟨0, .buf setD⟩ ∧ x.dropWhile isDg = l.dropWhile isDg) (fun x => x.length) (fun _ => (.tree (.str (l.dropWhile isDg)), [[], setD])) ?_ n l _ _ (by omega) ⟨rfl, rfl, rfl, rfl⟩
  intro k x hx ih env s ⟨e0, e1, j1, hd⟩
  have ho : outsA s 0 [.tree (.str l), .ptr setD 0] = some [[], setD] := by simp only [outsA, j1, Option.bind_some, Option.map_some]
  cases x with
  | nil =>
    have q0 : ¬ (((([] : List UInt8)).length : Nat) : Int) > 0 := by decide
    simp only [zaa, zab, zac, zad, zae, zaf, zag, zah, zai, zaj, zak, zal, zam, zan, zao, zap, zaq, zar, zas, zat, zau, zav, zaw, zax, zay, zaz, zba, zbb, zbc, zbd, zbe, zbf, zbg, zbh, zbi, zbj, Nat.reduceBEq, Bool.or_self, Bool.or_false, Bool.or_true, Bool.and_true, Bool.and_false, Bool.true_and, Bool.false_and, Option.isNone_none, Option.isNone_some, Option.isSome_some, Option.isSome_none, zbk, zbl, zbm, zbn, zbo, zbp, zbq, zbr, zbs, zbt, zbu, zbv, zbw, zbx, zby, zbz, zca, zcb, zcc, zcd, zce, zcf, zcg, zch, zci, zcj, zck, zcl, zcm, zcn, zco, zcp, zcq, zcr, zcs, zct, zcu, zcv, zcw, zcx, zcy, zcz, zda, zdb, zdc, zdd, zde, zdf, Option.getD_some, Option.getD_none, zet, zeu, zev, zew, zex, zey, zez, zfa, Option.map_some, Option.map_none, Option.bind_some, List.map_cons, List.map_nil, List.cons_append, List.nil_append, ↓reduceIte, Nat.reduceEqDiff, Nat.reduceAdd, decide_true, decide_false, Bool.true_eq_false, Bool.false_eq_true, zdg, zdh, zdi, zdj, zdk, zdl, zdm, zdn, ia22, ld31, zdo, zdp, zeg, List.toList_toArray, len9, ix9, zeh, zei, zej, zek, zel, e0, e1, q0]
    rw [← hd]
    exact finish_s _ _ _ _ _ _ _ (by simp only [zfa, ↓reduceIte, Nat.reduceEqDiff]; rfl) ho
  | cons a r =>
    have q0 : (((a :: r).length : Nat) : Int) > 0 := by simp only [List.length_cons]; omega
    have q1 : (0 : Int) ≤ 0 ∧ (0 : Int) < (((a :: r).length : Nat) : Int) := ⟨Int.le_refl _, q0⟩
    have q2 : (a :: r).getD (0 : Int).toNat 0 = a := rfl
    have cc := fun D => callA_ps (cfg := cfg0) (D := D) j1 (contains_eq n d a)
    by_cases hc : isDg a = true
    · have q4 : (0 : Int) ≤ 1 ∧ (1 : Int) ≤ (((a :: r).length : Nat) : Int) := by omega
      have q5 : (a :: r).drop (1 : Int).toNat = r := rfl
      rw [hc] at cc
      simp only [zaa, zab, zac, zad, zae, zaf, zag, zah, zai, zaj, zak, zal, zam, zan, zao, zap, zaq, zar, zas, zat, zau, zav, zaw, zax, zay, zaz, zba, zbb, zbc, zbd, zbe, zbf, zbg, zbh, zbi, zbj, Nat.reduceBEq, Bool.or_self, Bool.or_false, Bool.or_true, Bool.and_true, Bool.and_false, Bool.true_and, Bool.false_and, Option.isNone_none, Option.isNone_some, Option.isSome_some, Option.isSome_none, zbk, zbl, zbm, zbn, zbo, zbp, zbq, zbr, zbs, zbt, zbu, zbv, zbw, zbx, zby, zbz, zca, zcb, zcc, zcd, zce, zcf, zcg, zch, zci, zcj, zck, zcl, zcm, zcn, zco, zcp, zcq, zcr, zcs, zct, zcu, zcv, zcw, zcx, zcy, zcz, zda, zdb, zdc, zdd, zde, zdf, Option.getD_some, Option.getD_none, zet, zeu, zev, zew, zex, zey, zez, zfa, Option.map_some, Option.map_none, Option.bind_some, List.map_cons, List.map_nil, List.cons_append, List.nil_append, ↓reduceIte, Nat.reduceEqDiff, Nat.reduceAdd, decide_true, decide_false, Bool.true_eq_false, Bool.false_eq_true, zdg, zdh, zdi, zdj, zdk, zdl, zdm, zdn, ia22, ld31, zdo, zdp, zeg, List.toList_toArray, len9, ix9, zeh, zei, zej, zek, zel, e0, e1, q0, q1, and_self, q2, cc, unA_not', Bool.not_true, q4, q5]
      refine ih r _ _ (by simp only [List.length_cons]; omega) rfl ⟨?_, ?_, j1, ?_⟩
      · simp only [zfa, ↓reduceIte, Nat.reduceEqDiff]
      · simp only [zfa, ↓reduceIte, Nat.reduceEqDiff, e1]
      · rw [← hd, List.dropWhile_cons, if_pos hc]
    · rw [Bool.not_eq_true] at hc
      rw [hc] at cc
      simp only [zaa, zab, zac, zad, zae, zaf, zag, zah, zai, zaj, zak, zal, zam, zan, zao, zap, zaq, zar, zas, zat, zau, zav, zaw, zax, zay, zaz, zba, zbb, zbc, zbd, zbe, zbf, zbg, zbh, zbi, zbj, Nat.reduceBEq, Bool.or_self, Bool.or_false, Bool.or_true, Bool.and_true, Bool.and_false, Bool.true_and, Bool.false_and, Option.isNone_none, Option.isNone_some, Option.isSome_some, Option.isSome_none, zbk, zbl, zbm, zbn, zbo, zbp, zbq, zbr, zbs, zbt, zbu, zbv, zbw, zbx, zby, zbz, zca, zcb, zcc, zcd, zce, zcf, zcg, zch, zci, zcj, zck, zcl, zcm, zcn, zco, zcp, zcq, zcr, zcs, zct, zcu, zcv, zcw, zcx, zcy, zcz, zda, zdb, zdc, zdd, zde, zdf, Option.getD_some, Option.getD_none, zet, zeu, zev, zew, zex, zey, zez, zfa, Option.map_some, Option.map_none, Option.bind_some, List.map_cons, List.map_nil, List.cons_append, List.nil_append, ↓reduceIte, Nat.reduceEqDiff, Nat.reduceAdd, decide_true, decide_false, Bool.true_eq_false, Bool.false_eq_true, zdg, zdh, zdi, zdj, zdk, zdl, zdm, zdn, ia22, ld31, zdo, zdp, zeg, List.toList_toArray, len9, ix9, zeh, zei, zej, zek, zel, e0, e1, q0, q1, and_self, q2, cc, unA_not', Bool.not_false]
      rw [← hd, List.dropWhile_cons, hc]
      exact finish_s _ _ _ _ _ _ _ (by simp only [zfa, ↓reduceIte, Nat.reduceEqDiff]; rfl) ho
def rtrim (l : List UInt8) : List UInt8 := (l.reverse.dropWhile isDg).reverse
theorem rtrim_snoc (l : List UInt8) (c : UInt8) : rtrim (l ++ [c]) = if isDg c = true then rtrim l else l ++ [c] := by
  unfold rtrim
  rw [List.reverse_append, List.reverse_singleton, List.singleton_append, List.dropWhile_cons]
  split
  · rfl
  · rw [List.reverse_cons, List.reverse_reverse]
set_option maxHeartbeats 4000000 in
theorem trimRA_eq (n d : Nat) (l : List UInt8) (hn : l.length < n) (hl : l.length ≤ 1000000) : evalFn Tryd.prog cfg0 n (d+2) 85 [.tree (.str l), .ptr setD 0] = some (.tree (.str (rtrim l)), [[], setD]) := by
  rw [evalFn_go _ Tryd.func85 (by unfold Tryd.f85; rfl) (by unfold Tryd.f85; decide) (Nat.le_of_ble_eq_true (by unfold Tryd.f85; rfl)) (by kernel_rfl)]
  simp only [zaa, zab, zac, zad, zae, zaf, zag, zah, zai, zaj, zak, zal, zam, zan, zao, zap, zaq, zar, zas, zat, zau, zav, zaw, zax, zay, zaz, zba, zbb, zbc, zbd, zbe, zbf, zbg, zbh, zbi, zbj, Nat.reduceBEq, Bool.or_self, Bool.or_false, Bool.or_true, Bool.and_true, Bool.and_false, Bool.true_and, Bool.false_and, Option.isNone_none, Option.isNone_some, Option.isSome_some, Option.isSome_none, zbk, zbl, zbm, zbn, zbo, zbp, zbq, zbr, zbs, zbt, zbu, zbv, zbw, zbx, zby, zbz, zca, zcb, zcc, zcd, zce, zcf, zcg, zch, zci, zcj, zck, zcl, zcm, zcn, zco, zcp, zcq, zcr, zcs, zct, zcu, zcv, zcw, zcx, zcy, zcz, zda, zdb, zdc, zdd, zde, zdf, Option.getD_some, Option.getD_none, zet, zeu, zev, zew, zex, zey, zez, zfa, Option.map_some, Option.map_none, Option.bind_some, List.map_cons, List.map_nil, List.cons_append, List.nil_append, ↓reduceIte, Nat.reduceEqDiff, Nat.reduceAdd, decide_true, decide_false, Bool.true_eq_false, Bool.false_eq_true, env0, List.getElem?_cons_zero, List.getElem?_cons_succ, zdg, zdh, zdi, zdj, zdk, zdl, zdm, zdn, ia22, ld31, zdo, zdp, zeg, List.toList_toArray, len9, ix9, zeh, zei, zej, zek, zel, den_loop]
  refine loop_ends (X := List UInt8) (fun x env s => env 0 = .str x ∧ env 1 = .ptr 1 0 0 ∧ s 1 = ⟨0, .buf setD⟩ ∧ rtrim x = rtrim l ∧ x.length ≤ 1000000) (fun x => x.length) (fun _ => (.tree (.str (rtrim l)), [[], setD])) ?_ n l _ _ (by omega) ⟨rfl, rfl, rfl, rfl, hl⟩
  intro k x hx ih env s ⟨e0, e1, j1, hd, hxl⟩
  have ho : outsA s 0 [.tree (.str l), .ptr setD 0] = some [[], setD] := by simp only [outsA, j1, Option.bind_some, Option.map_some]
  have hxc : x = [] ∨ ∃ r a, x = r ++ [a] := by
    rcases List.eq_nil_or_concat x with h | ⟨r, a, h⟩
    · exact .inl h
    · exact .inr ⟨r, a, by rw [h, List.concat_eq_append]⟩
  rcases hxc with rfl | ⟨r, a, rfl⟩
  · have q0 : ¬ (((([] : List UInt8)).length : Nat) : Int) > 0 := by decide
    simp only [zaa, zab, zac, zad, zae, zaf, zag, zah, zai, zaj, zak, zal, zam, zan, zao, zap, zaq, zar, zas, zat, zau, zav, zaw, zax, zay, zaz, zba, zbb, zbc, zbd, zbe, zbf, zbg, zbh, zbi, zbj, Nat.reduceBEq, Bool.or_self, Bool.or_false, Bool.or_true, Bool.and_true, Bool.and_false, Bool.true_and, Bool.false_and, Option.isNone_none, Option.isNone_some, Option.isSome_some, Option.isSome_none, zbk, zbl, zbm, zbn, zbo, zbp, zbq, zbr, zbs, zbt, zbu, zbv, zbw, zbx, zby, zbz, zca, zcb, zcc, zcd, zce, zcf, zcg, zch, zci, zcj, zck, zcl, zcm, zcn, zco, zcp, zcq, zcr, zcs, zct, zcu, zcv, zcw, zcx, zcy, zcz, zda, zdb, zdc, zdd, zde, zdf, Option.getD_some, Option.getD_none, zet, zeu, zev, zew, zex, zey, zez, zfa, Option.map_some, Option.map_none, Option.bind_some, List.map_cons, List.map_nil, List.cons_append, List.nil_append, ↓reduceIte, Nat.reduceEqDiff, Nat.reduceAdd, decide_true, decide_false, Bool.true_eq_false, Bool.false_eq_true, zdg, zdh, zdi, zdj, zdk, zdl, zdm, zdn, ia22, ld31, zdo, zdp, zeg, List.toList_toArray, len9, ix9, zeh, zei, zej, zek, zel, e0, e1, q0]
    rw [← hd]
    exact finish_s _ _ _ _ _ _ _ (by simp only [zfa, ↓reduceIte, Nat.reduceEqDiff]; rfl) ho
  · have hlen : (r ++ [a]).length = r.length + 1 := by simp
    have q0 : (((r ++ [a]).length : Nat) : Int) > 0 := by omega
    have b1 := i_sub Tryd.prog 3 ((r ++ [a]).length : Int) 1 (by omega) (by omega)
    have q1 : (0 : Int) ≤ (((r ++ [a]).length : Nat) : Int) - 1 ∧ (((r ++ [a]).length : Nat) : Int) - 1 < (((r ++ [a]).length : Nat) : Int) := by omega
    have q2 : (r ++ [a]).getD ((((r ++ [a]).length : Nat) : Int) - 1).toNat 0 = a := by
      rw [show ((((r ++ [a]).length : Nat) : Int) - 1).toNat = r.length by omega]
      simp
    have cc := fun D => callA_ps (cfg := cfg0) (D := D) j1 (contains_eq n d a)
    by_cases hc : isDg a = true
    · have q4 : (0 : Int) ≤ (((r ++ [a]).length : Nat) : Int) - 1 ∧ (((r ++ [a]).length : Nat) : Int) - 1 ≤ (((r ++ [a]).length : Nat) : Int) := by omega
      have q5 : (r ++ [a]).take ((((r ++ [a]).length : Nat) : Int) - 1).toNat = r := by
        rw [show ((((r ++ [a]).length : Nat) : Int) - 1).toNat = r.length by omega]
        simp
      rw [hc] at cc
      simp only [zaa, zab, zac, zad, zae, zaf, zag, zah, zai, zaj, zak, zal, zam, zan, zao, zap, zaq, zar, zas, zat, zau, zav, zaw, zax, zay, zaz, zba, zbb, zbc, zbd, zbe, zbf, zbg, zbh, zbi, zbj, Nat.reduceBEq, Bool.or_self, Bool.or_false, Bool.or_true, Bool.and_true, Bool.and_false, Bool.true_and, Bool.false_and, Option.isNone_none, Option.isNone_some, Option.isSome_some, Option.isSome_none, zbk, zbl, zbm, zbn, zbo, zbp, zbq, zbr, zbs, zbt, zbu, zbv, zbw, zbx, zby, zbz, zca, zcb, zcc, zcd, zce, zcf, zcg, zch, zci, zcj, zck, zcl, zcm, zcn, zco, zcp, zcq, zcr, zcs, zct, zcu, zcv, zcw, zcx, zcy, zcz, zda, zdb, zdc, zdd, zde, zdf, Option.getD_some, Option.getD_none, zet, zeu, zev, zew, zex, zey, zez, zfa, Option.map_some, Option.map_none, Option.bind_some, List.map_cons, List.map_nil, List.cons_append, List.nil_append, ↓reduceIte, Nat.reduceEqDiff, Nat.reduceAdd, decide_true, decide_false, Bool.true_eq_false, Bool.false_eq_true, zdg, zdh, zdi, zdj, zdk, zdl, zdm, zdn, ia22, ld31, zdo, zdp, zeg, List.toList_toArray, len9, ix9, zeh, zei, zej, zek, zel, e0, e1, q0, b1, q1, and_self, q2, cc, unA_not', Bool.not_true, q4, q5]
      refine ih r _ _ (by simp only [hlen]; omega) rfl ⟨?_, ?_, j1, ?_, by omega⟩
      · simp only [zfa, ↓reduceIte, Nat.reduceEqDiff]
      · simp only [zfa, ↓reduceIte, Nat.reduceEqDiff, e1]
      · rw [← hd, rtrim_snoc, if_pos hc]
    · rw [Bool.not_eq_true] at hc
      rw [hc] at cc
      simp only [zaa, zab, zac, zad, zae, zaf, zag, zah, zai, zaj, zak, zal, zam, zan, zao, zap, zaq, zar, zas, zat, zau, zav, zaw, zax, zay, zaz, zba, zbb, zbc, zbd, zbe, zbf, zbg, zbh, zbi, zbj, Nat.reduceBEq, Bool.or_self, Bool.or_false, Bool.or_true, Bool.and_true, Bool.and_false, Bool.true_and, Bool.false_and, Option.isNone_none, Option.isNone_some, Option.isSome_some, Option.isSome_none, zbk, zbl, zbm, zbn, zbo, zbp, zbq, zbr, zbs, zbt, zbu, zbv, zbw, zbx, zby, zbz, zca, zcb, zcc, zcd, zce, zcf, zcg, zch, zci, zcj, zck, zcl, zcm, zcn, zco, zcp, zcq, zcr, zcs, zct, zcu, zcv, zcw, zcx, zcy, zcz, zda, zdb, zdc, zdd, zde, zdf, Option.getD_some, Option.getD_none, zet, zeu, zev, zew, zex, zey, zez, zfa, Option.map_some, Option.map_none, Option.bind_some, List.map_cons, List.map_nil, List.cons_append, List.nil_append, ↓reduceIte, Nat.reduceEqDiff, Nat.reduceAdd, decide_true, decide_false, Bool.true_eq_false, Bool.false_eq_true, zdg, zdh, zdi, zdj, zdk, zdl, zdm, zdn, ia22, ld31, zdo, zdp, zeg, List.toList_toArray, len9, ix9, zeh, zei, zej, zek, zel, e0, e1, q0, b1, q1, and_self, q2, cc, unA_not', Bool.not_false]
      rw [← hd, rtrim_snoc, hc]
      exact finish_s _ _ _ _ _ _ _ (by simp only [zfa, ↓reduceIte, Nat.reduceEqDiff]; rfl) ho
theorem trim_nil (l : List UInt8) : (rtrim l).dropWhile isDg = [] ↔ l.all isDg = true := by
  have h1 : ∀ m : List UInt8, m.dropWhile isDg = [] ↔ ∀ x ∈ m, isDg x = true := fun m => by
    induction m with
    | nil => simp
    | cons a r ih =>
      rw [List.dropWhile_cons]
      by_cases h : isDg a = true
      · rw [if_pos h, ih]; simp [h]
      · rw [if_neg h]; simp [h]
  have h2 : ∀ m : List UInt8, ∀ x ∈ m.dropWhile isDg, x ∈ m := fun m x hx => (List.dropWhile_sublist isDg).mem hx
  have h3 : ∀ m : List UInt8, (∀ x ∈ m.dropWhile isDg, isDg x = true) → m.dropWhile isDg = [] := fun m h => by
    induction m with
    | nil => rfl
    | cons a r ih =>
      rw [List.dropWhile_cons] at h ⊢
      by_cases ha : isDg a = true
      · rw [if_pos ha] at h ⊢; exact ih h
      · rw [if_neg ha] at h
        exact absurd (h a (List.mem_cons_self)) ha
  rw [h1, List.all_eq_true]
  unfold rtrim
  constructor
  · intro h x hx
    have := h3 l.reverse fun y hy => h y (List.mem_reverse.mpr hy)
    exact (h1 l.reverse).mp this x (List.mem_reverse.mpr hx)
  · intro h x hx
    exact h x (List.mem_reverse.mp (h2 _ x (List.mem_reverse.mp hx)))
theorem tb78 : (List.replicate 256 (AV.bool false)).length = 256 := List.length_replicate
theorem spl78 : splice (List.replicate 256 (AV.bool false)) 0 setD = setD := by simp [splice, setD_len]
def stE78 (e : Ent) (p k : Nat) (s : St) : Option St := match e with | ⟨t, .buf xs⟩ => if t = k then (if 256 ≤ xs.length then some (upd s p ⟨t, .buf (splice xs 0 setD)⟩) else none) else none | _ => none
theorem st_78 (s : St) (p k : Nat) : storeA Tryd.prog 78 s (.ptr p k 0) (.agg setD) = stE78 (s p) p k s := by
  simp only [storeA, settle, Option.bind_some, stE78]
  cases h : s p with
  | mk t c => cases c <;> simp [esz78, setD_len]
theorem stE78_new (t p k : Nat) (s : St) : stE78 ⟨t, .buf (List.replicate 256 (AV.bool false))⟩ p k s = if t = k then some (upd s p ⟨t, .buf setD⟩) else none := by
  rw [stE78, if_pos (show 256 ≤ (List.replicate 256 (AV.bool false)).length by rw [tb78]; exact Nat.le_refl _), spl78]
set_option maxHeartbeats 4000000 in
theorem trim_eq (d : Nat) (l : List UInt8) (hl : l.length ≤ 1000) : evalFn Tryd.prog cfg0 100000 (d+3) 58 [.tree (.str l), .tree (.str dgs)] = some (.tree (.str ((rtrim l).dropWhile isDg)), [[], []]) := by
  rw [evalFn_go _ Tryd.func58 (by unfold Tryd.f58; rfl) (by unfold Tryd.f58; decide) (Nat.le_of_ble_eq_true (by unfold Tryd.f58; rfl)) (by kernel_rfl)]
  have c0 := fun D s => callA_trees (cfg := cfg0) (d := D) (s := s) (f := 83) (vs := [.str dgs]) rfl (mkSet_eq (d + 1))
  have q1 : (dgs == []) = false := rfl
  have q2 : ((dgs.length : Int) == 1) = false := rfl
  have hr : (rtrim l).length ≤ 1000 := by
    unfold rtrim
    rw [List.length_reverse]
    exact Nat.le_trans (List.dropWhile_sublist isDg).length_le (by rw [List.length_reverse]; exact hl)
  cases l with
  | nil =>
    have q0 : (([] : List UInt8) == []) = true := rfl
    simp only [zaa, zab, zac, zad, zae, zaf, zag, zah, zai, zaj, zak, zal, zam, zan, zao, zap, zaq, zar, zas, zat, zau, zav, zaw, zax, zay, zaz, zba, zbb, zbc, zbd, zbe, zbf, zbg, zbh, zbi, zbj, Nat.reduceBEq, Bool.or_self, Bool.or_false, Bool.or_true, Bool.and_true, Bool.and_false, Bool.true_and, Bool.false_and, Option.isNone_none, Option.isNone_some, Option.isSome_some, Option.isSome_none, zbk, zbl, zbm, zbn, zbo, zbp, zbq, zbr, zbs, zbt, zbu, zbv, zbw, zbx, zby, zbz, zca, zcb, zcc, zcd, zce, zcf, zcg, zch, zci, zcj, zck, zcl, zcm, zcn, zco, zcp, zcq, zcr, zcs, zct, zcu, zcv, zcw, zcx, zcy, zcz, zda, zdb, zdc, zdd, zde, zdf, Option.getD_some, Option.getD_none, zet, zeu, zev, zew, zex, zey, zez, zfa, Option.map_some, Option.map_none, Option.bind_some, List.map_cons, List.map_nil, List.cons_append, List.nil_append, ↓reduceIte, Nat.reduceEqDiff, Nat.reduceAdd, decide_true, decide_false, Bool.true_eq_false, Bool.false_eq_true, env0, List.getElem?_cons_zero, List.getElem?_cons_succ, zdg, zdh, zdi, zdj, zdk, zdl, zdm, zdn, ia22, ld31, zdo, zdp, zeg, List.toList_toArray, len9, ix9, zeh, zei, zej, zek, zel, q0]
    exact finish_s _ _ _ _ _ _ _ (by simp only [zfa, ↓reduceIte, Nat.reduceEqDiff]; rfl) rfl
  | cons a r =>
    have q0 : ((a :: r : List UInt8) == []) = false := rfl
    generalize hm : a :: r = m at *
    simp only [zaa, zab, zac, zad, zae, zaf, zag, zah, zai, zaj, zak, zal, zam, zan, zao, zap, zaq, zar, zas, zat, zau, zav, zaw, zax, zay, zaz, zba, zbb, zbc, zbd, zbe, zbf, zbg, zbh, zbi, zbj, Nat.reduceBEq, Bool.or_self, Bool.or_false, Bool.or_true, Bool.and_true, Bool.and_false, Bool.true_and, Bool.false_and, Option.isNone_none, Option.isNone_some, Option.isSome_some, Option.isSome_none, zbk, zbl, zbm, zbn, zbo, zbp, zbq, zbr, zbs, zbt, zbu, zbv, zbw, zbx, zby, zbz, zca, zcb, zcc, zcd, zce, zcf, zcg, zch, zci, zcj, zck, zcl, zcm, zcn, zco, zcp, zcq, zcr, zcs, zct, zcu, zcv, zcw, zcx, zcy, zcz, zda, zdb, zdc, zdd, zde, zdf, Option.getD_some, Option.getD_none, zet, zeu, zev, zew, zex, zey, zez, zfa, Option.map_some, Option.map_none, Option.bind_some, List.map_cons, List.map_nil, List.cons_append, List.nil_append, ↓reduceIte, Nat.reduceEqDiff, Nat.reduceAdd, decide_true, decide_false, Bool.true_eq_false, Bool.false_eq_true, env0, List.getElem?_cons_zero, List.getElem?_cons_succ, zdg, zdh, zdi, zdj, zdk, zdl, zdm, zdn, ia22, ld31, zdo, zdp, zeg, List.toList_toArray, len9, ix9, zeh, zei, zej, zek, zel, st0_2, q0, q1, q2, c0, ext_0, ext_1, zdr, zero78, zdw, Nat.zero_add, st_78, stE78_new]
    refine forgetS (fun s => callA cfg0 (evalFn Tryd.prog cfg0 100000 (d + 2)) 36 s 85 [.str m, .ptr 5 1 0]) (fun env s => env 5 = .ptr 5 1 0 ∧ s 5 = ⟨1, .buf setD⟩) ⟨by simp only [zfa, ↓reduceIte, Nat.reduceEqDiff], by simp only [zfa, ↓reduceIte, Nat.reduceEqDiff]⟩ ?_
    intro env s ⟨e5, j5⟩
    have c1 := fun D => callA_sp (cfg := cfg0) (D := D) j5 (trimRA_eq 100000 d m (by omega) (by omega))
    have c2 := fun D => callA_sp (cfg := cfg0) (D := D) j5 (trimLA_eq 100000 d (rtrim m) (by omega))
    simp only [zaa, zab, zac, zad, zae, zaf, zag, zah, zai, zaj, zak, zal, zam, zan, zao, zap, zaq, zar, zas, zat, zau, zav, zaw, zax, zay, zaz, zba, zbb, zbc, zbd, zbe, zbf, zbg, zbh, zbi, zbj, Nat.reduceBEq, Bool.or_self, Bool.or_false, Bool.or_true, Bool.and_true, Bool.and_false, Bool.true_and, Bool.false_and, Option.isNone_none, Option.isNone_some, Option.isSome_some, Option.isSome_none, zbk, zbl, zbm, zbn, zbo, zbp, zbq, zbr, zbs, zbt, zbu, zbv, zbw, zbx, zby, zbz, zca, zcb, zcc, zcd, zce, zcf, zcg, zch, zci, zcj, zck, zcl, zcm, zcn, zco, zcp, zcq, zcr, zcs, zct, zcu, zcv, zcw, zcx, zcy, zcz, zda, zdb, zdc, zdd, zde, zdf, Option.getD_some, Option.getD_none, zet, zeu, zev, zew, zex, zey, zez, zfa, Option.map_some, Option.map_none, Option.bind_some, List.map_cons, List.map_nil, List.cons_append, List.nil_append, ↓reduceIte, Nat.reduceEqDiff, Nat.reduceAdd, decide_true, decide_false, Bool.true_eq_false, Bool.false_eq_true, zdg, zdh, zdi, zdj, zdk, zdl, zdm, zdn, ia22, ld31, zdo, zdp, zeg, List.toList_toArray, len9, ix9, zeh, zei, zej, zek, zel, e5, c1, c2]
    exact finish_s _ _ _ _ _ _ _ (by simp only [zfa, ↓reduceIte, Nat.reduceEqDiff]) rfl
end Go.Ab

/- A number's text. Conditions: a number that is shown. -/
namespace Go.Ab
open Go.Proofs
set_option maxRecDepth 100000
set_option linter.unusedSimpArgs false

/-! ### Types -/
theorem tk64 : tkOf Tryd.prog 64 = .sl 9 := by kernel_rfl
theorem esz9 : esz Tryd.prog 9 = some 1 := by kernel_rfl
theorem zero9 : zeroOf Tryd.prog 9 = some [.str []] := by kernel_rfl
theorem by9 : byOf Tryd.prog 9 = 16 := by kernel_rfl
theorem tk65 : tkOf Tryd.prog 65 = .arr 9 5 := by kernel_rfl
theorem tk66 : tkOf Tryd.prog 66 = .sl 5 := by kernel_rfl
theorem esz5 : esz Tryd.prog 5 = some 1 := by kernel_rfl
theorem zero65 : zeroOf Tryd.prog 65 = some (List.replicate 9 (.int .u8 0)) := by kernel_rfl
theorem conv3_5 (s : St) (x : Nat) (h : x < 256) : convA Tryd.prog 3 5 s (.int .i64 (x : Int)) = some (.int .u8 (x : Int)) := by
  have e : IntKind.u8.wrap (x : Int) = (x : Int) := by
    simp [IntKind.wrap, IntKind.bits, IntKind.signed]; omega
  have t3 : tkOf Tryd.prog 3 = .int .i64 := by kernel_rfl
  simp only [convA, t3, tk5, e]
def ia65 (e : Ent) (p k : Nat) (i : Int) : Option AV := if (cellsE e k).isSome = true ∧ 0 ≤ i ∧ i < 9 then some (.ptr p k i.toNat) else none
theorem ia_65 (s : St) (p k : Nat) (i : Int) : indexAddrA Tryd.prog 65 s (.ptr p k 0) (.int .i64 i) = ia65 (s p) p k i := by
  simp only [indexAddrA, tk65, esz5, Option.bind_some, live, cellsAt_E, ia65, Nat.zero_add, Nat.mul_one]; rfl
theorem ia65_buf (t p k : Nat) (i : Int) (xs : List AV) : ia65 ⟨t, .buf xs⟩ p k i = if t = k then (if 0 ≤ i ∧ i < 9 then some (.ptr p k i.toNat) else none) else none := by
  rw [ia65, cellsE_buf]
  by_cases e : t = k <;> simp [e]
theorem st_5 (s : St) (p k off : Nat) (z : Int) : storeA Tryd.prog 5 s (.ptr p k off) (.int .u8 z) = stB (s p) p k off s (.int .u8 z) := by
  simp only [storeA, settle, Option.bind_some, stB]
  cases h : s p with
  | mk t c => cases c <;> simp [esz5, cellOk]
def sl65 (e : Ent) (p k : Nat) : Option AV := (cellsE e k).bind fun xs => if 9 ≤ xs.length then some (.own p k 0 9 1) else none
theorem sl_65 (s : St) (p k : Nat) : sliceA Tryd.prog 65 s (.ptr p k 0) none none none = sl65 (s p) p k := by
  simp only [sliceA, tk65, esz5, boundA, Option.bind_some, cellsAt_E, sl65, Option.isSome_none, Bool.false_eq_true, if_false]
  cases cellsE (s p) k <;> simp
def cvB (e : Ent) (k : Nat) : Option AV := (cellsE e k).bind fun xs => if 0 + 9 ≤ xs.length then (bytesOf ((xs.drop 0).take 9)).map .str else none
theorem conv66_9 (s : St) (p k : Nat) : convA Tryd.prog 66 9 s (.own p k 0 9 1) = cvB (s p) k := by
  simp only [convA, tk66, tk9, tk5, cellsAt_E, cvB]
def dcell (b : UInt8) : AV := .int .u8 (b.toNat : Int)
theorem bytes_d : ∀ l : List UInt8, bytesOf (l.map dcell) = some l
  | [] => rfl
  | a :: r => by
    have : UInt8.ofNat (a.toNat : Int).toNat = a := by rw [Int.toNat_natCast]; exact UInt8.ofNat_toNat
    simp only [List.map_cons, dcell, bytesOf]
    rw [bytes_d r, Option.map_some, this]
theorem sl65_d (t p k : Nat) (l : List UInt8) (h : l.length = 9) : sl65 ⟨t, .buf (l.map dcell)⟩ p k = if t = k then some (.own p k 0 9 1) else none := by
  rw [sl65, cellsE_buf]
  by_cases e : t = k <;> simp [e, h]
theorem cvB_d (t k : Nat) (l : List UInt8) (h : l.length = 9) : cvB ⟨t, .buf (l.map dcell)⟩ k = if t = k then some (.str l) else none := by
  rw [cvB, cellsE_buf]
  by_cases e : t = k
  · rw [if_pos e, if_pos e, Option.bind_some, if_pos (by simp [h]), List.drop_zero, List.take_of_length_le (by simp [h]), bytes_d]; rfl
  · rw [if_neg e, if_neg e]; rfl
def one64 (x : AV) : Option AV := (fillA (fun i => some (i * 1, 1)) (rep 1 [.str []]) [(0, x)]).map (.sl · 1 .tight)
theorem one64_str (l : List UInt8) : one64 (.str l) = some (.sl [.str l] 1 .tight) := rfl
theorem opA_one64 (call : FuncId → List Arg → Option Out) (q : Bool) (d : Option Tmp) (ty : TypeId) (pos : String) (af : Array Edge) (g : Option (Nat × Bool)) (t : Nat) (env : Env) (s : St) (x : Operand) :
    opA Tryd.prog cfg0 call q ⟨d, .buildSlice 64 1 #[(0, x)], ty, pos, af, g⟩ t env s = (one64 (ev env x)).map (·, s) := by
  rw [opA_bs]
  simp only [tk64, esz9, zero9, Option.bind_some, List.map_cons, List.map_nil]
  rfl
theorem append64 (d : Nat) (s : St) (a : List UInt8) (ss : List (List UInt8)) (g : Grip) (h : ss.length ≤ 1000) : appendA Tryd.prog #[64, 64] d s (.sl [.str a] 1 .tight) (.sl (ss.map .str) ss.length g) = some (.sl ((a :: ss).map .str) (a :: ss).length (.tok d ((s d).t + 1)), upd s d ⟨(s d).t + 1, .tok 1⟩) := by
  have e1 : (#[64, 64] : Array TypeId)[0]? = some 64 := rfl
  have e2 : (#[64, 64] : Array TypeId)[1]? = some 64 := rfl
  simp only [appendA, e1, e2, Option.map_some, tk64, esz9, Option.bind_some, moreA, baseA, by9, zero9, List.length_map, Nat.mul_one, if_true, List.length_cons, List.length_nil, Nat.zero_add]
  rw [if_pos ⟨by omega, by omega, trivial⟩]
  simp [Nat.add_comm]

/-! ### Join -/
theorem inter_nil : ∀ ss : List (List UInt8), List.intercalate [] ss = ss.flatten
  | [] => rfl
  | [a] => by simp [List.intercalate]
  | a :: b :: r => by
    have := inter_nil (b :: r)
    simp only [List.intercalate, List.intersperse, List.flatten_cons, List.nil_append] at this ⊢
    rw [this]
theorem strs_map : ∀ ss : List (List UInt8), strsOf (ss.map .str) = some ss
  | [] => rfl
  | a :: r => by simp only [List.map_cons, strsOf, strs_map r, Option.map_some]
theorem evalJoin (n d : Nat) (ss : List (List UInt8)) (g : Grip) (h : ss.flatten.length ≤ 1000000) (hl : ss.length ≤ 1000000) : evalFn Tryd.prog cfg0 n (d+1) 62 [.tree (.sl (ss.map .str) ss.length g), .tree (.str [])] = some (.tree (.str ss.flatten), [[], []]) := by
  have hp : cfg0.prim 62 [.tree (.sl (ss.map .str) ss.length g), .tree (.str [])] = some (.tree (.str ss.flatten), [[], []]) := by
    rw [show cfg0.prim = prim0 from rfl, prim0, if_pos (beq_self_eq_true _)]
    simp only [joinP, strs_map, Option.bind_some, inter_nil]
    rw [if_pos ⟨trivial, by omega, by omega⟩]
  rw [evalFn, hp]
theorem cJoin (n d : Nat) (ss : List (List UInt8)) (g : Grip) (h : ss.flatten.length ≤ 1000000) (hl : ss.length ≤ 1000000) (D : Nat) (s : St) : callA cfg0 (evalFn Tryd.prog cfg0 n (d+1)) D s 62 [.sl (ss.map .str) ss.length g, .str []] = some (.str ss.flatten, s) := by
  have e := fun g => evalJoin n d ss g h hl
  have hf : flatR (.tree (.str ss.flatten)) = true := rfl
  cases g with
  | tok p t => simp [callA, argsA, argA, givesL, givesOf, lendsL, lendsOf, e, backA, resA, hf, show ∀ f j, cfg0.lin f j = false from fun _ _ => rfl]
  | _ => simp [callA, argsA, argA, givesL, givesOf, lendsL, lendsOf, e, backA, resA, hf]
end Go.Ab

/- A number's text: the walk. Conditions: a number that is shown. -/
namespace Go.Ab
open Go.Proofs
set_option maxRecDepth 100000
set_option linter.unusedSimpArgs false

theorem rep_set {α : Type} (a b : α) (l : List α) : ∀ k, (List.replicate (k + 1) a ++ l).set k b = List.replicate k a ++ b :: l
  | 0 => rfl
  | k + 1 => by
    rw [List.replicate_succ, List.cons_append, List.set_cons_succ, rep_set a b l k, List.replicate_succ, List.cons_append]
theorem padN_succ (i v : Nat) : padN (i + 1) v = dg (v / 10 ^ i) :: padN i v := by
  rw [Nat.add_comm, padN_add 1 i v]; rfl
/-- Nine places, of which so many digits have been written. -/
def cellsI (i v : Nat) : List AV := List.replicate (9 - i) (.int .u8 0) ++ (padN i v).map dcell
theorem cellsI_len (i v : Nat) (h : i ≤ 9) : (cellsI i v).length = 9 := by simp [cellsI, padN_len]; omega
theorem cellsI_set (i v : Nat) (h : i < 9) : (cellsI i v).set (8 - i) (.int .u8 ((48 + v / 10 ^ i % 10 : Nat) : Int)) = cellsI (i + 1) v := by
  unfold cellsI
  rw [show 9 - i = (8 - i) + 1 by omega, rep_set, show 9 - (i + 1) = 8 - i by omega, padN_succ, List.map_cons]
  congr 2
  rw [dcell, dg_nat]
theorem cellsI_9 (v : Nat) : cellsI 9 v = (padN 9 v).map dcell := rfl
theorem bd_1R (v : Nat) : buildA Tryd.prog 24 [(1, encR v)] = some (.agg [.bool false, encR v]) := by
  simp only [buildA, zef, tk24, pl24, Option.bind_some]
  unfold encR encL
  split <;> rfl
theorem ten9 : (10 : Nat) ^ 9 = 1000000000 := by decide
theorem cDiv9 (n d : Nat) (hn : 100000 ≤ n) (D : Nat) (s : St) (g : Gk) (v : Nat) (hv : v < B ^ 12) : callA cfg0 (evalFn Tryd.prog cfg0 n (d+5)) D s 40 [encL g (digs v), .sl [.int .u32 1000000000] 1 .tight] = some (.tup [encR (v / 10 ^ 9), encR (v % 10 ^ 9)], s) := by
  have hv1 : val [1000000000] = 1000000000 := by decide
  have := cDivS n d hn D s (w := encL g (digs v)) (w' := .sl [.int .u32 1000000000] 1 .tight) (l := digs v) (m := [1000000000]) (sh_L g _) ⟨.tight, rfl⟩ (limbs_digs _) (limbs_one (by decide)) (by have := digs_len _ 12 hv; omega) (by decide)
  rw [val_digs, hv1, if_neg (by decide), if_neg (by decide), ← ten9] at this
  exact this
theorem cInt9 (n d : Nat) (hn : 100000 ≤ n) (D : Nat) (s : St) (v : Nat) (hv : v < 1000000000) : callA cfg0 (evalFn Tryd.prog cfg0 n (d+3)) D s 18 [.agg [.bool false, encR v]] = some (.tup [.int .i64 (v : Int), .bool true], s) := by
  have big := B12_big
  have e : (.agg [.bool false, encR v] : AV) = encZ (v : Int) := by
    rw [encZ, Int.natAbs_natCast, decide_eq_false (by omega)]
  rw [e]
  have := cInt n d hn (isN_Z (v : Int) (by omega)) D s
  have hi : isI64 (v : Int) = true := by unfold isI64; rw [decide_eq_true (by omega), decide_eq_true (by omega)]; rfl
  rw [intZ, if_pos hi] at this
  exact this
theorem flat9 : ∀ (ss : List (List UInt8)), (∀ x ∈ ss, x.length = 9) → ss.flatten.length = 9 * ss.length
  | [], _ => rfl
  | a :: r, h => by
    rw [List.flatten_cons, List.length_append, h a List.mem_cons_self, flat9 r fun x hx => h x (List.mem_cons_of_mem _ hx), List.length_cons]
    omega
theorem textZ_of (z : Int) : textZ z = if decN z.natAbs = [] then [48] else if z < 0 then 45 :: decN z.natAbs else decN z.natAbs := by
  unfold textZ
  by_cases h : z = 0
  · subst h; rw [if_pos rfl, if_pos (by simp [decN_0])]
  · have h2 : ¬ decN z.natAbs = [] := fun hc => h (by have := (decN_nil _).mp hc; omega)
    rw [if_neg h, if_neg h2]
set_option maxHeartbeats 16000000 in
theorem text_eq (n d : Nat) (hn : 100000 ≤ n) {w : AV} {z : Int} (hw : IsN w z) : evalFn Tryd.prog cfg0 n (d+6) 34 [.tree w] = some (.tree (.str (textZ z)), [[]]) := by
  obtain ⟨g, c1⟩ := cOf n (d + 3) hw
  have hlt := hw.lt
  obtain ⟨neg, g0, l0, rfl, hl, hz⟩ := hw
  rw [evalFn_go _ Tryd.func34 (by unfold Tryd.f34; rfl) (by unfold Tryd.f34; decide) (Nat.le_of_ble_eq_true (by unfold Tryd.f34; rfl)) (by kernel_rfl)]
  simp only [zaa, zab, zac, zad, zae, zaf, zag, zah, zai, zaj, zak, zal, zam, zan, zao, zap, zaq, zar, zas, zat, zau, zav, zaw, zax, zay, zaz, zba, zbb, zbc, zbd, zbe, zbf, zbg, zbh, zbi, zbj, Nat.reduceBEq, Bool.or_self, Bool.or_false, Bool.or_true, Bool.and_true, Bool.and_false, Bool.true_and, Bool.false_and, Option.isNone_none, Option.isNone_some, Option.isSome_some, Option.isSome_none, zbk, zbl, zbm, zbn, zbo, zbp, zbq, zbr, zbs, zbt, zbu, zbv, zbw, zbx, zby, zbz, zca, zcb, zcc, zcd, zce, zcf, zcg, zch, zci, zcj, zck, zcl, zcm, zcn, zco, zcp, zcq, zcr, zcs, zct, zcu, zcv, zcw, zcx, zcy, zcz, zda, zdb, zdc, zdd, zde, zdf, Option.getD_some, Option.getD_none, zet, zeu, zev, zew, zex, zey, zez, zfa, Option.map_some, Option.map_none, Option.bind_some, List.map_cons, List.map_nil, List.cons_append, List.nil_append, ↓reduceIte, Nat.reduceEqDiff, Nat.reduceAdd, decide_true, decide_false, Bool.true_eq_false, Bool.false_eq_true, env0, List.getElem?_cons_zero, List.getElem?_cons_succ, zdg, zdh, zdi, zdj, zdk, zdl, zdm, zdn, ia22, ld31, zdo, zdp, zdq, zdr, zds, zdt, zdu, zdv, zdw, zdx, zdy, zdz, zea, zeb, zec, fa_0, fa_1, zed, bd_0, bd_2, zee, fd_1, zef, Nat.zero_add, zeg, List.toList_toArray, len9, ix9, zeh, zei, zej, zek, zel, st0_1, c1, den_loop]
  have h117 : z.natAbs < 10 ^ 117 := Nat.lt_trans hlt (Nat.lt_trans B12_ten (Nat.pow_lt_pow_right (by decide) (by decide)))
  generalize hv : z.natAbs = v at *
  refine loop_ends (X := Nat × Gk × Grip × List (List UInt8)) (fun x env s => env 1 = .ptr 1 1 0 ∧ env 3 = .sl (x.2.2.2.map .str) x.2.2.2.length x.2.2.1 ∧ env 4 = encL x.2.1 (digs (v / 10 ^ (9 * x.1))) ∧ s 1 = ⟨1, .buf [.bool (decide (z < 0)), encL g (digs v)]⟩ ∧ x.2.2.2.length = x.1 ∧ (∀ y ∈ x.2.2.2, y.length = 9) ∧ x.2.2.2.flatten = padN (9 * x.1) v ∧ (x.1 = 0 ∨ v / 10 ^ (9 * x.1) ≠ 0)) (fun x => 13 - x.1) (fun _ => (.tree (.str (textZ z)), [[]])) ?_ n (0, g, .nil, []) _ _ (by simp only; omega) ⟨by first | (simp only [zfa, ↓reduceIte, Nat.reduceEqDiff]; done) | (simp only [zfa, ↓reduceIte, Nat.reduceEqDiff]; rfl), by first | (simp only [zfa, ↓reduceIte, Nat.reduceEqDiff]; done) | (simp only [zfa, ↓reduceIte, Nat.reduceEqDiff]; rfl), by rw [Nat.mul_zero, Nat.pow_zero, Nat.div_one]; simp only [zfa, ↓reduceIte, Nat.reduceEqDiff], by simp only [zfa, ↓reduceIte, Nat.reduceEqDiff], rfl, by simp, rfl, .inl rfl⟩
  intro k ⟨m, gg, gr, ss⟩ hxk ih env s ⟨e1, e3, e4, j1, hm, h9, hfl, hnz⟩
  simp only at e3 e4 hm h9 hfl hnz hxk
  have hm12 : m ≤ 12 := by
    rcases hnz with h | h
    · omega
    · apply Classical.byContradiction
      intro hc
      apply h
      exact Nat.div_eq_of_lt (Nat.lt_of_lt_of_le h117 (Nat.pow_le_pow_right (by decide) (by omega)))
  have hx : v / 10 ^ (9 * m) < B ^ 12 := Nat.lt_of_le_of_lt (Nat.div_le_self _ _) hlt
  have c2 := fun D s => cDiv9 n d hn D s gg _ hx
  rw [Nat.div_div_eq_div_mul, ← Nat.pow_add, show 9 * m + 9 = 9 * (m + 1) by omega] at c2
  have hr : v / 10 ^ (9 * m) % 10 ^ 9 < 1000000000 := by have := Nat.mod_lt (v / 10 ^ (9 * m)) (show 0 < 10 ^ 9 by decide); rwa [ten9] at this ⊢
  obtain ⟨r, hrr⟩ : ∃ r, v / 10 ^ (9 * m) % 10 ^ 9 = r := ⟨_, rfl⟩
  rw [hrr] at c2 hr
  have c3 := fun D s => cInt9 n (d + 2) hn D s r hr
  simp only [zaa, zab, zac, zad, zae, zaf, zag, zah, zai, zaj, zak, zal, zam, zan, zao, zap, zaq, zar, zas, zat, zau, zav, zaw, zax, zay, zaz, zba, zbb, zbc, zbd, zbe, zbf, zbg, zbh, zbi, zbj, Nat.reduceBEq, Bool.or_self, Bool.or_false, Bool.or_true, Bool.and_true, Bool.and_false, Bool.true_and, Bool.false_and, Option.isNone_none, Option.isNone_some, Option.isSome_some, Option.isSome_none, zbk, zbl, zbm, zbn, zbo, zbp, zbq, zbr, zbs, zbt, zbu, zbv, zbw, zbx, zby, zbz, zca, zcb, zcc, zcd, zce, zcf, zcg, zch, zci, zcj, zck, zcl, zcm, zcn, zco, zcp, zcq, zcr, zcs, zct, zcu, zcv, zcw, zcx, zcy, zcz, zda, zdb, zdc, zdd, zde, zdf, Option.getD_some, Option.getD_none, zet, zeu, zev, zew, zex, zey, zez, zfa, Option.map_some, Option.map_none, Option.bind_some, List.map_cons, List.map_nil, List.cons_append, List.nil_append, ↓reduceIte, Nat.reduceEqDiff, Nat.reduceAdd, decide_true, decide_false, Bool.true_eq_false, Bool.false_eq_true, env0, List.getElem?_cons_zero, List.getElem?_cons_succ, zdg, zdh, zdi, zdj, zdk, zdl, zdm, zdn, ia22, ld31, zdo, zdp, zdq, zdr, zds, zdt, zdu, zdv, zdw, zdx, zdy, zdz, zea, zeb, zec, fa_0, fa_1, zed, bd_0, bd_2, zee, fd_1, zef, Nat.zero_add, zeg, List.toList_toArray, len9, ix9, zeh, zei, zej, zek, zel, e1, e3, e4, j1, opA_one, one22_int, c2, c3, bd_1R, zero65, den_loop]
  have hr' : padN 9 (v / 10 ^ (9 * m)) = padN 9 r := by rw [← hrr, padN_mod]
  have hfl2 : (padN 9 r :: ss).flatten = padN (9 * (m + 1)) v := by
    rw [List.flatten_cons, hfl, show 9 * (m + 1) = 9 + 9 * m by omega, padN_add 9 (9 * m) v, hr']
  clear c1 c2 c3
  obtain ⟨T, hT⟩ : ∃ T, (s 9).t + 1 = T := ⟨_, rfl⟩
  rw [hT]
  refine loop_ends (X := Nat) (fun i env s => env 1 = .ptr 1 1 0 ∧ env 3 = .sl (ss.map .str) ss.length gr ∧ env 5 = encR (v / 10 ^ (9 * (m + 1))) ∧ env 28 = .int .i64 (i : Int) ∧ env 7 = .int .i64 ((r / 10 ^ i : Nat) : Int) ∧ env 9 = .ptr 9 T 0 ∧ s 1 = ⟨1, .buf [.bool (decide (z < 0)), encL g (digs v)]⟩ ∧ s 9 = ⟨T, .buf (cellsI i r)⟩ ∧ i ≤ 9) (fun i => 9 - i) (fun _ => (.tree (.str (textZ z)), [[]])) ?_ n 0 _ _ (by omega) ⟨by simp only [zfa, ↓reduceIte, Nat.reduceEqDiff, e1], by simp only [zfa, ↓reduceIte, Nat.reduceEqDiff, e3], by simp only [zfa, ↓reduceIte, Nat.reduceEqDiff], by first | (simp only [zfa, ↓reduceIte, Nat.reduceEqDiff]; done) | (simp only [zfa, ↓reduceIte, Nat.reduceEqDiff]; rfl), by rw [Nat.pow_zero, Nat.div_one]; simp only [zfa, ↓reduceIte, Nat.reduceEqDiff], by simp only [zfa, ↓reduceIte, Nat.reduceEqDiff], by simp only [zfa, ↓reduceIte, Nat.reduceEqDiff, j1], by first | (simp only [zfa, ↓reduceIte, Nat.reduceEqDiff]; done) | (simp only [zfa, ↓reduceIte, Nat.reduceEqDiff]; rfl), by decide⟩
  clear e1 e3 e4 j1
  intro k' i hik ihi env s ⟨e1, e3, e5, e28, e7, e9, j1, j9, hi⟩
  by_cases hi9 : i = 9
  · subst hi9
    clear ihi
    have q1 : ¬ ((9 : Nat) : Int) < 9 := by decide
    rw [cellsI_9] at j9
    have s1 := fun t p k => sl65_d t p k (padN 9 r) (padN_len 9 r)
    have s2 := fun t k => cvB_d t k (padN 9 r) (padN_len 9 r)
    have ap := fun d s => append64 d s (padN 9 r) ss gr (by omega)
    have hlen9 : ∀ y ∈ padN 9 r :: ss, y.length = 9 := fun y hy => by
      rcases List.mem_cons.mp hy with rfl | hy
      · exact padN_len _ _
      · exact h9 y hy
    by_cases h0 : v / 10 ^ (9 * (m + 1)) = 0
    · have q2 : (((digs (v / 10 ^ (9 * (m + 1)))).length : Int) == 0) = true := by rw [h0]; simp [digs_0]
      have hlt2 : v < 10 ^ (9 * (m + 1)) := (Nat.div_eq_zero_iff.mp h0).resolve_left (by have := Nat.pow_pos (n := 9 * (m + 1)) (show 0 < 10 by decide); omega)
      have hfl9 := flat9 _ hlen9
      have c4 := fun gr D s => cJoin n (d + 4) (padN 9 r :: ss) gr (by rw [hfl9, List.length_cons]; omega) (by rw [List.length_cons]; omega) D s
      rw [hfl2] at c4
      simp only [List.map_cons] at c4
      have c5 := fun D s => callA_trees (cfg := cfg0) (d := D) (s := s) (f := 61) (vs := [.str (padN (9 * (m + 1)) v), .str [48]]) rfl (trimL0_eq n (d + 3) (padN (9 * (m + 1)) v) (by rw [padN_len]; omega))
      rw [padN_drop _ _ hlt2] at c5
      rw [textZ_of, hv]
      by_cases hd : decN v = []
      · have q3 : (decN v == []) = true := by rw [hd]; rfl
        rw [if_pos hd]
        simp only [zaa, zab, zac, zad, zae, zaf, zag, zah, zai, zaj, zak, zal, zam, zan, zao, zap, zaq, zar, zas, zat, zau, zav, zaw, zax, zay, zaz, zba, zbb, zbc, zbd, zbe, zbf, zbg, zbh, zbi, zbj, Nat.reduceBEq, Bool.or_self, Bool.or_false, Bool.or_true, Bool.and_true, Bool.and_false, Bool.true_and, Bool.false_and, Option.isNone_none, Option.isNone_some, Option.isSome_some, Option.isSome_none, zbk, zbl, zbm, zbn, zbo, zbp, zbq, zbr, zbs, zbt, zbu, zbv, zbw, zbx, zby, zbz, zca, zcb, zcc, zcd, zce, zcf, zcg, zch, zci, zcj, zck, zcl, zcm, zcn, zco, zcp, zcq, zcr, zcs, zct, zcu, zcv, zcw, zcx, zcy, zcz, zda, zdb, zdc, zdd, zde, zdf, Option.getD_some, Option.getD_none, zet, zeu, zev, zew, zex, zey, zez, zfa, Option.map_some, Option.map_none, Option.bind_some, List.map_cons, List.map_nil, List.cons_append, List.nil_append, ↓reduceIte, Nat.reduceEqDiff, Nat.reduceAdd, decide_true, decide_false, Bool.true_eq_false, Bool.false_eq_true, env0, List.getElem?_cons_zero, List.getElem?_cons_succ, zdg, zdh, zdi, zdj, zdk, zdl, zdm, zdn, ia22, ld31, zdo, zdp, zdq, zdr, zds, zdt, zdu, zdv, zdw, zdx, zdy, zdz, zea, zeb, zec, fa_0, fa_1, zed, bd_0, bd_2, zee, fd_1, zef, Nat.zero_add, zeg, List.toList_toArray, len9, ix9, zeh, zei, zej, zek, zel, e1, e3, e5, e28, e7, e9, j1, j9, q1, sl_65, s1, conv66_9, s2, opA_one64, one64_str, ap, lenR, q2, c4, c5, q3]
        exact finish_s _ _ _ _ _ _ _ (by simp only [zfa, ↓reduceIte, Nat.reduceEqDiff]) rfl
      · have q3 : (decN v == []) = false := by rw [beq_eq_false_iff_ne]; exact hd
        rw [if_neg hd]
        have hdl := dec_len 117 v h117
        have ad := s_addS Tryd.prog 9 [45] (decN v) (by simp only [List.length_cons, List.length_nil]; omega)
        by_cases hz0 : z < 0
        · rw [if_pos hz0]
          simp only [zaa, zab, zac, zad, zae, zaf, zag, zah, zai, zaj, zak, zal, zam, zan, zao, zap, zaq, zar, zas, zat, zau, zav, zaw, zax, zay, zaz, zba, zbb, zbc, zbd, zbe, zbf, zbg, zbh, zbi, zbj, Nat.reduceBEq, Bool.or_self, Bool.or_false, Bool.or_true, Bool.and_true, Bool.and_false, Bool.true_and, Bool.false_and, Option.isNone_none, Option.isNone_some, Option.isSome_some, Option.isSome_none, zbk, zbl, zbm, zbn, zbo, zbp, zbq, zbr, zbs, zbt, zbu, zbv, zbw, zbx, zby, zbz, zca, zcb, zcc, zcd, zce, zcf, zcg, zch, zci, zcj, zck, zcl, zcm, zcn, zco, zcp, zcq, zcr, zcs, zct, zcu, zcv, zcw, zcx, zcy, zcz, zda, zdb, zdc, zdd, zde, zdf, Option.getD_some, Option.getD_none, zet, zeu, zev, zew, zex, zey, zez, zfa, Option.map_some, Option.map_none, Option.bind_some, List.map_cons, List.map_nil, List.cons_append, List.nil_append, ↓reduceIte, Nat.reduceEqDiff, Nat.reduceAdd, decide_true, decide_false, Bool.true_eq_false, Bool.false_eq_true, env0, List.getElem?_cons_zero, List.getElem?_cons_succ, zdg, zdh, zdi, zdj, zdk, zdl, zdm, zdn, ia22, ld31, zdo, zdp, zdq, zdr, zds, zdt, zdu, zdv, zdw, zdx, zdy, zdz, zea, zeb, zec, fa_0, fa_1, zed, bd_0, bd_2, zee, fd_1, zef, Nat.zero_add, zeg, List.toList_toArray, len9, ix9, zeh, zei, zej, zek, zel, e1, e3, e5, e28, e7, e9, j1, j9, q1, sl_65, s1, conv66_9, s2, opA_one64, one64_str, ap, lenR, q2, c4, c5, q3, hz0, ad]
          exact finish_s _ _ _ _ _ _ _ (by simp only [zfa, ↓reduceIte, Nat.reduceEqDiff]) rfl
        · rw [if_neg hz0]
          simp only [zaa, zab, zac, zad, zae, zaf, zag, zah, zai, zaj, zak, zal, zam, zan, zao, zap, zaq, zar, zas, zat, zau, zav, zaw, zax, zay, zaz, zba, zbb, zbc, zbd, zbe, zbf, zbg, zbh, zbi, zbj, Nat.reduceBEq, Bool.or_self, Bool.or_false, Bool.or_true, Bool.and_true, Bool.and_false, Bool.true_and, Bool.false_and, Option.isNone_none, Option.isNone_some, Option.isSome_some, Option.isSome_none, zbk, zbl, zbm, zbn, zbo, zbp, zbq, zbr, zbs, zbt, zbu, zbv, zbw, zbx, zby, zbz, zca, zcb, zcc, zcd, zce, zcf, zcg, zch, zci, zcj, zck, zcl, zcm, zcn, zco, zcp, zcq, zcr, zcs, zct, zcu, zcv, zcw, zcx, zcy, zcz, zda, zdb, zdc, zdd, zde, zdf, Option.getD_some, Option.getD_none, zet, zeu, zev, zew, zex, zey, zez, zfa, Option.map_some, Option.map_none, Option.bind_some, List.map_cons, List.map_nil, List.cons_append, List.nil_append, ↓reduceIte, Nat.reduceEqDiff, Nat.reduceAdd, decide_true, decide_false, Bool.true_eq_false, Bool.false_eq_true, env0, List.getElem?_cons_zero, List.getElem?_cons_succ, zdg, zdh, zdi, zdj, zdk, zdl, zdm, zdn, ia22, ld31, zdo, zdp, zdq, zdr, zds, zdt, zdu, zdv, zdw, zdx, zdy, zdz, zea, zeb, zec, fa_0, fa_1, zed, bd_0, bd_2, zee, fd_1, zef, Nat.zero_add, zeg, List.toList_toArray, len9, ix9, zeh, zei, zej, zek, zel, e1, e3, e5, e28, e7, e9, j1, j9, q1, sl_65, s1, conv66_9, s2, opA_one64, one64_str, ap, lenR, q2, c4, c5, q3, hz0]
          exact finish_s _ _ _ _ _ _ _ (by simp only [zfa, ↓reduceIte, Nat.reduceEqDiff]) rfl
    · have q2 : (((digs (v / 10 ^ (9 * (m + 1)))).length : Int) == 0) = false := by
        rw [beq_eq_false_iff_ne]
        intro h
        exact h0 ((digs_len0 _).mp (by omega))
      simp only [zaa, zab, zac, zad, zae, zaf, zag, zah, zai, zaj, zak, zal, zam, zan, zao, zap, zaq, zar, zas, zat, zau, zav, zaw, zax, zay, zaz, zba, zbb, zbc, zbd, zbe, zbf, zbg, zbh, zbi, zbj, Nat.reduceBEq, Bool.or_self, Bool.or_false, Bool.or_true, Bool.and_true, Bool.and_false, Bool.true_and, Bool.false_and, Option.isNone_none, Option.isNone_some, Option.isSome_some, Option.isSome_none, zbk, zbl, zbm, zbn, zbo, zbp, zbq, zbr, zbs, zbt, zbu, zbv, zbw, zbx, zby, zbz, zca, zcb, zcc, zcd, zce, zcf, zcg, zch, zci, zcj, zck, zcl, zcm, zcn, zco, zcp, zcq, zcr, zcs, zct, zcu, zcv, zcw, zcx, zcy, zcz, zda, zdb, zdc, zdd, zde, zdf, Option.getD_some, Option.getD_none, zet, zeu, zev, zew, zex, zey, zez, zfa, Option.map_some, Option.map_none, Option.bind_some, List.map_cons, List.map_nil, List.cons_append, List.nil_append, ↓reduceIte, Nat.reduceEqDiff, Nat.reduceAdd, decide_true, decide_false, Bool.true_eq_false, Bool.false_eq_true, env0, List.getElem?_cons_zero, List.getElem?_cons_succ, zdg, zdh, zdi, zdj, zdk, zdl, zdm, zdn, ia22, ld31, zdo, zdp, zdq, zdr, zds, zdt, zdu, zdv, zdw, zdx, zdy, zdz, zea, zeb, zec, fa_0, fa_1, zed, bd_0, bd_2, zee, fd_1, zef, Nat.zero_add, zeg, List.toList_toArray, len9, ix9, zeh, zei, zej, zek, zel, e1, e3, e5, e28, e7, e9, j1, j9, q1, sl_65, s1, conv66_9, s2, opA_one64, one64_str, ap, lenR, q2]
      refine ih (m + 1, (if v / 10 ^ (9 * (m + 1)) = 0 then .n else .l), .tok 45 ((s 45).t + 1), padN 9 r :: ss) _ _ (by simp only; omega) rfl ⟨?_, ?_, ?_, ?_, ?_, hlen9, hfl2, .inr h0⟩
      · simp only [zfa, ↓reduceIte, Nat.reduceEqDiff, e1]
      · simp only [zfa, ↓reduceIte, Nat.reduceEqDiff]; rfl
      · simp only [zfa, ↓reduceIte, Nat.reduceEqDiff]; rfl
      · simp only [zfa, ↓reduceIte, Nat.reduceEqDiff, j1]
      · simp only [List.length_cons]; omega
  · have q1 : (i : Int) < 9 := by omega
    have hri : r / 10 ^ i ≤ r := Nat.div_le_self _ _
    have a1 := i_sub Tryd.prog 3 8 (i : Int) (by omega) (by omega)
    have a2 := i_rem Tryd.prog 3 (r / 10 ^ i) 10 (by decide)
    rw [show ((10 : Nat) : Int) = 10 from rfl] at a2
    have a3 := i_add Tryd.prog 3 48 ((r / 10 ^ i % 10 : Nat) : Int) (by omega) (by omega)
    rw [show (48 : Int) + ((r / 10 ^ i % 10 : Nat) : Int) = ((48 + r / 10 ^ i % 10 : Nat) : Int) by omega] at a3
    have a4 := fun s => conv3_5 s (48 + r / 10 ^ i % 10) (by omega)
    have a5 := i_quo Tryd.prog 3 (r / 10 ^ i) 10 (by decide) (by omega)
    rw [show ((10 : Nat) : Int) = 10 from rfl, Nat.div_div_eq_div_mul, ← Nat.pow_succ] at a5
    have a6 := i_add Tryd.prog 3 (i : Int) 1 (by omega) (by omega)
    have q2 : (0 : Int) ≤ 8 - (i : Int) ∧ 8 - (i : Int) < 9 := by omega
    have q3 : (8 - (i : Int)).toNat = 8 - i := by omega
    have q4 : 8 - i < (cellsI i r).length := by rw [cellsI_len i r hi]; omega
    have q5 := cellsI_set i r (by omega)
    simp only [zaa, zab, zac, zad, zae, zaf, zag, zah, zai, zaj, zak, zal, zam, zan, zao, zap, zaq, zar, zas, zat, zau, zav, zaw, zax, zay, zaz, zba, zbb, zbc, zbd, zbe, zbf, zbg, zbh, zbi, zbj, Nat.reduceBEq, Bool.or_self, Bool.or_false, Bool.or_true, Bool.and_true, Bool.and_false, Bool.true_and, Bool.false_and, Option.isNone_none, Option.isNone_some, Option.isSome_some, Option.isSome_none, zbk, zbl, zbm, zbn, zbo, zbp, zbq, zbr, zbs, zbt, zbu, zbv, zbw, zbx, zby, zbz, zca, zcb, zcc, zcd, zce, zcf, zcg, zch, zci, zcj, zck, zcl, zcm, zcn, zco, zcp, zcq, zcr, zcs, zct, zcu, zcv, zcw, zcx, zcy, zcz, zda, zdb, zdc, zdd, zde, zdf, Option.getD_some, Option.getD_none, zet, zeu, zev, zew, zex, zey, zez, zfa, Option.map_some, Option.map_none, Option.bind_some, List.map_cons, List.map_nil, List.cons_append, List.nil_append, ↓reduceIte, Nat.reduceEqDiff, Nat.reduceAdd, decide_true, decide_false, Bool.true_eq_false, Bool.false_eq_true, env0, List.getElem?_cons_zero, List.getElem?_cons_succ, zdg, zdh, zdi, zdj, zdk, zdl, zdm, zdn, ia22, ld31, zdo, zdp, zdq, zdr, zds, zdt, zdu, zdv, zdw, zdx, zdy, zdz, zea, zeb, zec, fa_0, fa_1, zed, bd_0, bd_2, zee, fd_1, zef, Nat.zero_add, zeg, List.toList_toArray, len9, ix9, zeh, zei, zej, zek, zel, e1, e3, e5, e28, e7, e9, j1, j9, q1, a1, a2, a3, a4, a5, a6, ia_65, ia65_buf, q2, and_self, q3, st_5, stB_buf, q4, q5]
    refine ihi (i + 1) _ _ (by omega) rfl ⟨?_, ?_, ?_, ?_, ?_, ?_, ?_, ?_, by omega⟩
    · simp only [zfa, ↓reduceIte, Nat.reduceEqDiff, e1]
    · simp only [zfa, ↓reduceIte, Nat.reduceEqDiff, e3]
    · simp only [zfa, ↓reduceIte, Nat.reduceEqDiff, e5]
    · simp only [zfa, ↓reduceIte, Nat.reduceEqDiff]; rfl
    · simp only [zfa, ↓reduceIte, Nat.reduceEqDiff]
    · simp only [zfa, ↓reduceIte, Nat.reduceEqDiff, e9]
    · simp only [zfa, ↓reduceIte, Nat.reduceEqDiff, j1]
    · simp only [zfa, ↓reduceIte, Nat.reduceEqDiff]
end Go.Ab

/- A number's text, as the reference has it. Conditions: a number that is shown. -/
namespace Go.Ab
open Go.Proofs
set_option maxRecDepth 100000
set_option linter.unusedSimpArgs false

theorem sl9_lh (s : St) (b : List UInt8) (k k' : IntKind) (i j : Int) : sliceA Tryd.prog 9 s (.str b) (some (.int k i)) (some (.int k' j)) none = if 0 ≤ j ∧ j ≤ b.length then (if 0 ≤ i ∧ i ≤ (j.toNat : Int) then some (.str ((b.take j.toNat).drop i.toNat)) else none) else none := by
  simp only [sliceA, tk9, boundA, Option.isSome_none, Bool.false_eq_true, if_false, Option.bind_some]
  split
  · rw [Option.bind_some]
    split <;> rfl
  · rfl
theorem conv31_3 (s : St) (x : Nat) (h : x < 4294967296) : convA Tryd.prog 48 3 s (.int .u32 (x : Int)) = some (.int .i64 (x : Int)) := by
  have t3 : tkOf Tryd.prog 3 = .int .i64 := by kernel_rfl
  simp only [convA, t3, tk31, i64_wrap _ (show -9223372036854775808 ≤ (x : Int) by omega) (show (x : Int) ≤ 9223372036854775807 by omega)]
theorem digs_one (r : Nat) (h : r < 10) (h0 : r ≠ 0) : digs r = [r] := by
  have h1 := val_digs r
  have h2 := digs_len r 1 (by rw [Nat.pow_one]; exact Nat.lt_trans h (by decide))
  have h3 := digs_len0 r
  cases hd : digs r with
  | nil => rw [hd] at h3; exact absurd (h3.mp rfl) h0
  | cons a t =>
    rw [hd] at h2 h1
    have : t = [] := by
      cases t with
      | nil => rfl
      | cons _ _ => simp at h2
    subst this
    have : a + B * 0 = r := h1
    rw [show a = r by omega]
theorem dgs_at : ∀ r : Fin 10, (dgs.take (r.val + 1)).drop r.val = [dg r.val] := by decide
theorem dg_mod (v : Nat) : dg (v % 10) = dg v := by unfold dg; rw [Nat.mod_mod]
theorem rcDiv10 (n d : Nat) (hn : 100000 ≤ n) (D : Nat) (s : St) (g : Gk) (v : Nat) (hv : v < B ^ 12) (h0 : v ≠ 0) : callA cfg0 (evalFn Tryd.prog cfg0 n (d+4)) D s 51 [encL g (digs v), .sl [.int .u32 10] 1 .tight] = some (.tup [encF (v / 10), encF (v % 10)], s) := by
  have h := rdiv_eq n d g .t (digs v) [10] (limbs_digs _) (limbs_one (by decide)) hn (by have := digs_len _ 12 hv; omega) (by decide)
  rw [val_digs, show val [10] = 10 by decide, divR, if_neg (by decide), encQ_pos _ _ (fun hb => h0 ((blen_eq0 _).mp hb))] at h
  exact callA_L2 _ _ _ _ _ _ _ _ _ h
set_option maxHeartbeats 16000000 in
theorem rtext_eq (n d : Nat) (hn : 100000 ≤ n) {w : AV} {z : Int} (hw : IsN w z) : evalFn Tryd.prog cfg0 n (d+5) 35 [.tree w] = some (.tree (.str (textZ z)), [[]]) := by
  obtain ⟨g, c1⟩ := cRis n (d + 2) hw
  have hlt := hw.lt
  obtain ⟨neg, g0, l0, rfl, hl, hz⟩ := hw
  rw [evalFn_go _ Tryd.func35 (by unfold Tryd.f35; rfl) (by unfold Tryd.f35; decide) (Nat.le_of_ble_eq_true (by unfold Tryd.f35; rfl)) (by kernel_rfl)]
  simp only [zaa, zab, zac, zad, zae, zaf, zag, zah, zai, zaj, zak, zal, zam, zan, zao, zap, zaq, zar, zas, zat, zau, zav, zaw, zax, zay, zaz, zba, zbb, zbc, zbd, zbe, zbf, zbg, zbh, zbi, zbj, Nat.reduceBEq, Bool.or_self, Bool.or_false, Bool.or_true, Bool.and_true, Bool.and_false, Bool.true_and, Bool.false_and, Option.isNone_none, Option.isNone_some, Option.isSome_some, Option.isSome_none, zbk, zbl, zbm, zbn, zbo, zbp, zbq, zbr, zbs, zbt, zbu, zbv, zbw, zbx, zby, zbz, zca, zcb, zcc, zcd, zce, zcf, zcg, zch, zci, zcj, zck, zcl, zcm, zcn, zco, zcp, zcq, zcr, zcs, zct, zcu, zcv, zcw, zcx, zcy, zcz, zda, zdb, zdc, zdd, zde, zdf, Option.getD_some, Option.getD_none, zet, zeu, zev, zew, zex, zey, zez, zfa, Option.map_some, Option.map_none, Option.bind_some, List.map_cons, List.map_nil, List.cons_append, List.nil_append, ↓reduceIte, Nat.reduceEqDiff, Nat.reduceAdd, decide_true, decide_false, Bool.true_eq_false, Bool.false_eq_true, env0, List.getElem?_cons_zero, List.getElem?_cons_succ, zdg, zdh, zdi, zdj, zdk, zdl, zdm, zdn, ia22, ld31, zdo, zdp, zdq, zdr, zds, zdt, zdu, zdv, zdw, zdx, zdy, zdz, zea, zeb, zec, fa_0, fa_1, zed, bd_0, bd_2, zee, fd_1, zef, Nat.zero_add, zeg, List.toList_toArray, len9, ix9, zeh, zei, zej, zek, zel, st0_1, c1, den_loop]
  have h116 : z.natAbs < 10 ^ 116 := Nat.lt_trans hlt B12_ten
  generalize hv : z.natAbs = v at *
  refine loop_ends (X := Nat × Gk × List UInt8) (fun x env s => env 3 = .ptr 3 1 0 ∧ env 4 = .str x.2.2 ∧ env 5 = encL x.2.1 (digs (v / 10 ^ x.1)) ∧ s 3 = ⟨1, .buf [.bool (decide (z < 0)), encL g (digs v)]⟩ ∧ x.2.2.length ≤ x.1 ∧ x.1 ≤ 116 ∧ decN v = decN (v / 10 ^ x.1) ++ x.2.2) (fun x => 117 - x.1) (fun _ => (.tree (.str (textZ z)), [[]])) ?_ n (0, g, []) _ _ (by simp only; omega) ⟨by first | (simp only [zfa, ↓reduceIte, Nat.reduceEqDiff]; done) | (simp only [zfa, ↓reduceIte, Nat.reduceEqDiff]; rfl), by first | (simp only [zfa, ↓reduceIte, Nat.reduceEqDiff]; done) | (simp only [zfa, ↓reduceIte, Nat.reduceEqDiff]; rfl), by rw [Nat.pow_zero, Nat.div_one]; simp only [zfa, ↓reduceIte, Nat.reduceEqDiff], by first | (simp only [zfa, ↓reduceIte, Nat.reduceEqDiff]; done) | (simp only [zfa, ↓reduceIte, Nat.reduceEqDiff]; rfl), by simp, by simp, by simp⟩
  intro k ⟨j, gg, ss⟩ hxk ih env s ⟨e3, e4, e5, j3, hsl, hj, hdec⟩
  simp only at e4 e5 hsl hj hdec hxk
  by_cases h0 : v / 10 ^ j = 0
  · have q1 : ¬ ((digs (v / 10 ^ j)).length : Int) > 0 := by rw [h0]; simp [digs_0]
    rw [h0, decN_0, List.nil_append] at hdec
    rw [textZ_of, hv, hdec]
    by_cases hd : ss = []
    · have q3 : (ss == []) = true := by rw [hd]; rfl
      rw [if_pos hd]
      simp only [zaa, zab, zac, zad, zae, zaf, zag, zah, zai, zaj, zak, zal, zam, zan, zao, zap, zaq, zar, zas, zat, zau, zav, zaw, zax, zay, zaz, zba, zbb, zbc, zbd, zbe, zbf, zbg, zbh, zbi, zbj, Nat.reduceBEq, Bool.or_self, Bool.or_false, Bool.or_true, Bool.and_true, Bool.and_false, Bool.true_and, Bool.false_and, Option.isNone_none, Option.isNone_some, Option.isSome_some, Option.isSome_none, zbk, zbl, zbm, zbn, zbo, zbp, zbq, zbr, zbs, zbt, zbu, zbv, zbw, zbx, zby, zbz, zca, zcb, zcc, zcd, zce, zcf, zcg, zch, zci, zcj, zck, zcl, zcm, zcn, zco, zcp, zcq, zcr, zcs, zct, zcu, zcv, zcw, zcx, zcy, zcz, zda, zdb, zdc, zdd, zde, zdf, Option.getD_some, Option.getD_none, zet, zeu, zev, zew, zex, zey, zez, zfa, Option.map_some, Option.map_none, Option.bind_some, List.map_cons, List.map_nil, List.cons_append, List.nil_append, ↓reduceIte, Nat.reduceEqDiff, Nat.reduceAdd, decide_true, decide_false, Bool.true_eq_false, Bool.false_eq_true, env0, List.getElem?_cons_zero, List.getElem?_cons_succ, zdg, zdh, zdi, zdj, zdk, zdl, zdm, zdn, ia22, ld31, zdo, zdp, zdq, zdr, zds, zdt, zdu, zdv, zdw, zdx, zdy, zdz, zea, zeb, zec, fa_0, fa_1, zed, bd_0, bd_2, zee, fd_1, zef, Nat.zero_add, zeg, List.toList_toArray, len9, ix9, zeh, zei, zej, zek, zel, e3, e4, e5, j3, q1, q3]
      exact finish_s _ _ _ _ _ _ _ (by simp only [zfa, ↓reduceIte, Nat.reduceEqDiff]) rfl
    · have q3 : (ss == []) = false := by rw [beq_eq_false_iff_ne]; exact hd
      rw [if_neg hd]
      have ad := s_addS Tryd.prog 9 [45] ss (by simp only [List.length_cons, List.length_nil]; omega)
      by_cases hz0 : z < 0
      · rw [if_pos hz0]
        simp only [zaa, zab, zac, zad, zae, zaf, zag, zah, zai, zaj, zak, zal, zam, zan, zao, zap, zaq, zar, zas, zat, zau, zav, zaw, zax, zay, zaz, zba, zbb, zbc, zbd, zbe, zbf, zbg, zbh, zbi, zbj, Nat.reduceBEq, Bool.or_self, Bool.or_false, Bool.or_true, Bool.and_true, Bool.and_false, Bool.true_and, Bool.false_and, Option.isNone_none, Option.isNone_some, Option.isSome_some, Option.isSome_none, zbk, zbl, zbm, zbn, zbo, zbp, zbq, zbr, zbs, zbt, zbu, zbv, zbw, zbx, zby, zbz, zca, zcb, zcc, zcd, zce, zcf, zcg, zch, zci, zcj, zck, zcl, zcm, zcn, zco, zcp, zcq, zcr, zcs, zct, zcu, zcv, zcw, zcx, zcy, zcz, zda, zdb, zdc, zdd, zde, zdf, Option.getD_some, Option.getD_none, zet, zeu, zev, zew, zex, zey, zez, zfa, Option.map_some, Option.map_none, Option.bind_some, List.map_cons, List.map_nil, List.cons_append, List.nil_append, ↓reduceIte, Nat.reduceEqDiff, Nat.reduceAdd, decide_true, decide_false, Bool.true_eq_false, Bool.false_eq_true, env0, List.getElem?_cons_zero, List.getElem?_cons_succ, zdg, zdh, zdi, zdj, zdk, zdl, zdm, zdn, ia22, ld31, zdo, zdp, zdq, zdr, zds, zdt, zdu, zdv, zdw, zdx, zdy, zdz, zea, zeb, zec, fa_0, fa_1, zed, bd_0, bd_2, zee, fd_1, zef, Nat.zero_add, zeg, List.toList_toArray, len9, ix9, zeh, zei, zej, zek, zel, e3, e4, e5, j3, q1, q3, hz0, ad]
        exact finish_s _ _ _ _ _ _ _ (by simp only [zfa, ↓reduceIte, Nat.reduceEqDiff]) rfl
      · rw [if_neg hz0]
        simp only [zaa, zab, zac, zad, zae, zaf, zag, zah, zai, zaj, zak, zal, zam, zan, zao, zap, zaq, zar, zas, zat, zau, zav, zaw, zax, zay, zaz, zba, zbb, zbc, zbd, zbe, zbf, zbg, zbh, zbi, zbj, Nat.reduceBEq, Bool.or_self, Bool.or_false, Bool.or_true, Bool.and_true, Bool.and_false, Bool.true_and, Bool.false_and, Option.isNone_none, Option.isNone_some, Option.isSome_some, Option.isSome_none, zbk, zbl, zbm, zbn, zbo, zbp, zbq, zbr, zbs, zbt, zbu, zbv, zbw, zbx, zby, zbz, zca, zcb, zcc, zcd, zce, zcf, zcg, zch, zci, zcj, zck, zcl, zcm, zcn, zco, zcp, zcq, zcr, zcs, zct, zcu, zcv, zcw, zcx, zcy, zcz, zda, zdb, zdc, zdd, zde, zdf, Option.getD_some, Option.getD_none, zet, zeu, zev, zew, zex, zey, zez, zfa, Option.map_some, Option.map_none, Option.bind_some, List.map_cons, List.map_nil, List.cons_append, List.nil_append, ↓reduceIte, Nat.reduceEqDiff, Nat.reduceAdd, decide_true, decide_false, Bool.true_eq_false, Bool.false_eq_true, env0, List.getElem?_cons_zero, List.getElem?_cons_succ, zdg, zdh, zdi, zdj, zdk, zdl, zdm, zdn, ia22, ld31, zdo, zdp, zdq, zdr, zds, zdt, zdu, zdv, zdw, zdx, zdy, zdz, zea, zeb, zec, fa_0, fa_1, zed, bd_0, bd_2, zee, fd_1, zef, Nat.zero_add, zeg, List.toList_toArray, len9, ix9, zeh, zei, zej, zek, zel, e3, e4, e5, j3, q1, q3, hz0]
        exact finish_s _ _ _ _ _ _ _ (by simp only [zfa, ↓reduceIte, Nat.reduceEqDiff]) rfl
  · have q1 : ((digs (v / 10 ^ j)).length : Int) > 0 := by
      have : (digs (v / 10 ^ j)).length ≠ 0 := fun h => h0 ((digs_len0 _).mp h)
      omega
    have hj2 : j < 116 := by
      apply Classical.byContradiction
      intro hc
      exact h0 (Nat.div_eq_of_lt (Nat.lt_of_lt_of_le h116 (Nat.pow_le_pow_right (by decide) (by omega))))
    have hx : v / 10 ^ j < B ^ 12 := Nat.lt_of_le_of_lt (Nat.div_le_self _ _) hlt
    have c2 := fun D s => rcDiv10 n d hn D s gg _ hx h0
    have hnx : v / 10 ^ j / 10 = v / 10 ^ (j + 1) := by rw [Nat.div_div_eq_div_mul, ← Nat.pow_succ]
    rw [hnx] at c2
    have hr : v / 10 ^ j % 10 < 10 := Nat.mod_lt _ (by decide)
    have hdec2 : decN v = decN (v / 10 ^ (j + 1)) ++ (dg (v / 10 ^ j % 10) :: ss) := by
      rw [hdec, decN_pos _ h0, hnx, dg_mod, List.append_assoc]; rfl
    generalize hrr : v / 10 ^ j % 10 = r at *
    have a1 := i_add Tryd.prog 3 (r : Int) 1 (by omega) (by omega)
    have q4 : (0 : Int) ≤ (r : Int) + 1 ∧ (r : Int) + 1 ≤ ((dgs.length : Nat) : Int) := by
      have : dgs.length = 10 := rfl
      omega
    have q5 : (0 : Int) ≤ (r : Int) ∧ (r : Int) ≤ ((((r : Int) + 1).toNat : Nat) : Int) := by omega
    have q6 : (dgs.take ((r : Int) + 1).toNat).drop ((r : Int)).toNat = [dg r] := by
      rw [show ((r : Int) + 1).toNat = r + 1 by omega, Int.toNat_natCast]
      exact dgs_at ⟨r, hr⟩
    have ad := s_addS Tryd.prog 9 [dg r] ss (by simp only [List.length_cons, List.length_nil]; omega)
    have edg : ([48, 49, 50, 51, 52, 53, 54, 55, 56, 57] : List UInt8) = dgs := rfl
    by_cases hr0 : r = 0
    · have q2 : ¬ ((digs r).length : Int) > 0 := by rw [hr0]; simp [digs_0]
      subst hr0
      have a1 := i_add Tryd.prog 3 0 1 (by omega) (by omega)
      have q4 : (0 : Int) ≤ 0 + 1 ∧ (0 : Int) + 1 ≤ ((dgs.length : Nat) : Int) := by decide
      have q5 : (0 : Int) ≤ 0 ∧ (0 : Int) ≤ ((((0 : Int) + 1).toNat : Nat) : Int) := by decide
      have q6 : (dgs.take ((0 : Int) + 1).toNat).drop (0 : Int).toNat = [dg 0] := by decide
      simp only [zaa, zab, zac, zad, zae, zaf, zag, zah, zai, zaj, zak, zal, zam, zan, zao, zap, zaq, zar, zas, zat, zau, zav, zaw, zax, zay, zaz, zba, zbb, zbc, zbd, zbe, zbf, zbg, zbh, zbi, zbj, Nat.reduceBEq, Bool.or_self, Bool.or_false, Bool.or_true, Bool.and_true, Bool.and_false, Bool.true_and, Bool.false_and, Option.isNone_none, Option.isNone_some, Option.isSome_some, Option.isSome_none, zbk, zbl, zbm, zbn, zbo, zbp, zbq, zbr, zbs, zbt, zbu, zbv, zbw, zbx, zby, zbz, zca, zcb, zcc, zcd, zce, zcf, zcg, zch, zci, zcj, zck, zcl, zcm, zcn, zco, zcp, zcq, zcr, zcs, zct, zcu, zcv, zcw, zcx, zcy, zcz, zda, zdb, zdc, zdd, zde, zdf, Option.getD_some, Option.getD_none, zet, zeu, zev, zew, zex, zey, zez, zfa, Option.map_some, Option.map_none, Option.bind_some, List.map_cons, List.map_nil, List.cons_append, List.nil_append, ↓reduceIte, Nat.reduceEqDiff, Nat.reduceAdd, decide_true, decide_false, Bool.true_eq_false, Bool.false_eq_true, env0, List.getElem?_cons_zero, List.getElem?_cons_succ, zdg, zdh, zdi, zdj, zdk, zdl, zdm, zdn, ia22, ld31, zdo, zdp, zdq, zdr, zds, zdt, zdu, zdv, zdw, zdx, zdy, zdz, zea, zeb, zec, fa_0, fa_1, zed, bd_0, bd_2, zee, fd_1, zef, Nat.zero_add, zeg, List.toList_toArray, len9, ix9, zeh, zei, zej, zek, zel, e3, e4, e5, j3, q1, opA_one, one22_int, c2, lenF, q2, a1, edg, sl9_lh, q4, q5, and_self, q6, ad]
      refine ih (j + 1, .l, dg 0 :: ss) _ _ (by simp only; omega) rfl ⟨?_, ?_, ?_, j3, ?_, by simp only; omega, hdec2⟩
      · simp only [zfa, ↓reduceIte, Nat.reduceEqDiff, e3]
      · simp only [zfa, ↓reduceIte, Nat.reduceEqDiff, List.cons_append, List.nil_append]
      · simp only [zfa, ↓reduceIte, Nat.reduceEqDiff]; rfl
      · simp only [List.length_cons]; omega
    · have hd1 := digs_one r hr hr0
      have q2 : (((([r] : List Nat)).length : Nat) : Int) > 0 := by simp
      have q7 : (0 : Int) < (((([r] : List Nat)).length : Nat) : Int) := by simp
      have q8 : (0 : Int) ≤ 0 := Int.le_refl _
      have q9 : 0 < (([r] : List Nat)).length := by simp
      have q10 : ([r] : List Nat).getD 0 0 = r := rfl
      have cv := fun s => conv31_3 s r (by omega)
      have eF : encF r = encL .l [r] := by rw [encF, hd1]
      rw [eF] at c2
      simp only [zaa, zab, zac, zad, zae, zaf, zag, zah, zai, zaj, zak, zal, zam, zan, zao, zap, zaq, zar, zas, zat, zau, zav, zaw, zax, zay, zaz, zba, zbb, zbc, zbd, zbe, zbf, zbg, zbh, zbi, zbj, Nat.reduceBEq, Bool.or_self, Bool.or_false, Bool.or_true, Bool.and_true, Bool.and_false, Bool.true_and, Bool.false_and, Option.isNone_none, Option.isNone_some, Option.isSome_some, Option.isSome_none, zbk, zbl, zbm, zbn, zbo, zbp, zbq, zbr, zbs, zbt, zbu, zbv, zbw, zbx, zby, zbz, zca, zcb, zcc, zcd, zce, zcf, zcg, zch, zci, zcj, zck, zcl, zcm, zcn, zco, zcp, zcq, zcr, zcs, zct, zcu, zcv, zcw, zcx, zcy, zcz, zda, zdb, zdc, zdd, zde, zdf, Option.getD_some, Option.getD_none, zet, zeu, zev, zew, zex, zey, zez, zfa, Option.map_some, Option.map_none, Option.bind_some, List.map_cons, List.map_nil, List.cons_append, List.nil_append, ↓reduceIte, Nat.reduceEqDiff, Nat.reduceAdd, decide_true, decide_false, Bool.true_eq_false, Bool.false_eq_true, env0, List.getElem?_cons_zero, List.getElem?_cons_succ, zdg, zdh, zdi, zdj, zdk, zdl, zdm, zdn, ia22, ld31, zdo, zdp, zdq, zdr, zds, zdt, zdu, zdv, zdw, zdx, zdy, zdz, zea, zeb, zec, fa_0, fa_1, zed, bd_0, bd_2, zee, fd_1, zef, Nat.zero_add, zeg, List.toList_toArray, len9, ix9, zeh, zei, zej, zek, zel, e3, e4, e5, j3, q1, opA_one, one22_int, c2, q2, q7, q8, q9, q10, Int.toNat_zero, cv, a1, edg, sl9_lh, q4, q5, and_self, q6, ad]
      refine ih (j + 1, .l, dg r :: ss) _ _ (by simp only; omega) rfl ⟨?_, ?_, ?_, j3, ?_, by simp only; omega, hdec2⟩
      · simp only [zfa, ↓reduceIte, Nat.reduceEqDiff, e3]
      · simp only [zfa, ↓reduceIte, Nat.reduceEqDiff]
      · simp only [zfa, ↓reduceIte, Nat.reduceEqDiff]; rfl
      · simp only [List.length_cons]; omega
end Go.Ab

/- The number of a text. Conditions: none beyond the text. -/
namespace Go.Ab
open Go.Proofs
set_option maxRecDepth 100000
set_option linter.unusedSimpArgs false

theorem conv5_31 (s : St) (x : Nat) (h : x < 256) : convA Tryd.prog 5 48 s (.int .u8 (x : Int)) = some (.int .u32 (x : Int)) := by
  have e : IntKind.u32.wrap (x : Int) = (x : Int) := by
    simp [IntKind.wrap, IntKind.bits, IntKind.signed]; omega
  simp only [convA, tk5, tk31, e]
theorem u8_sub48 (P : Program) (t : TypeId) (c : Nat) (h : 48 ≤ c) (h' : c < 256) : binA P .sub t (.int .u8 (c : Int)) (.int .u8 48) = some (.int .u8 ((c - 48 : Nat) : Int)) := by
  have e : IntKind.u8.wrap ((c : Int) - 48) = ((c - 48 : Nat) : Int) := by
    simp [IntKind.wrap, IntKind.bits, IntKind.signed]; omega
  simp only [binA, intA, if_true, e]
theorem valD_take (l : List UInt8) (i : Nat) (h : i < l.length) : valD (l.take (i + 1)) = valD (l.take i) * 10 + ((l.getD i 0).toNat - 48) := by
  rw [List.take_add_one, List.getElem?_eq_getElem h, Option.toList_some, valD_snoc, List.getD_eq_getElem?_getD, List.getElem?_eq_getElem h]; rfl
theorem take_all {l : List UInt8} (i : Nat) (h : l.all isDg = true) : (l.take i).all isDg = true := by
  rw [List.all_eq_true] at h ⊢
  exact fun x hx => h x (List.mem_of_mem_take hx)
theorem ten200 : 10 ^ 201 < B ^ 21 := by decide
theorem val_B {l : List UInt8} (h : l.all isDg = true) (hl : l.length ≤ 200) : valD l < 10 ^ 200 := by
  exact Nat.lt_of_lt_of_le (valD_lt l h) (Nat.pow_le_pow_right (by decide) hl)
theorem num_1 (x : Nat) (h : x < 4294967296) : Num (.sl [.int .u32 (x : Int)] 1 .tight) x := ⟨[x], ⟨_, rfl⟩, limbs_one h, by simp, by show x + B * 0 = x; omega⟩
theorem num_10 : Num (.sl [.int .u32 10] 1 .tight) 10 := num_1 10 (by decide)
theorem dg_at {l : List UInt8} (h : l.all isDg = true) (i : Nat) (hi : i < l.length) : 48 ≤ (l.getD i 0).toNat ∧ (l.getD i 0).toNat ≤ 57 := by
  rw [List.all_eq_true] at h
  have := h (l[i]) (List.getElem_mem hi)
  rw [List.getD_eq_getElem?_getD, List.getElem?_eq_getElem hi]
  simp only [isDg, Bool.and_eq_true, decide_eq_true_eq] at this
  exact this
set_option maxHeartbeats 16000000 in
theorem parse_eq (d : Nat) (s0 : List UInt8) (hs : s0.length ≤ 1000) : evalFn Tryd.prog cfg0 100000 (d+7) 32 [.tree (.str s0)] = some (.tree (tupZ (parseR s0)), [[]]) := by
  rw [evalFn_go _ Tryd.func32 (by unfold Tryd.f32; rfl) (by unfold Tryd.f32; decide) (Nat.le_of_ble_eq_true (by unfold Tryd.f32; rfl)) (by kernel_rfl)]
  have big := B12_big
  have hcl : (cutS s0).2.length ≤ s0.length := by
    cases h : (cutS s0).1 with
    | true => rw [(cut_len s0 h).1, List.length_drop]; omega
    | false => rw [cut_no s0 h]; exact Nat.le_refl _
  have c1 := fun D s => callA_trees (cfg := cfg0) (d := D) (s := s) (f := 57) (vs := [.str s0, .str [45]]) rfl (cutP_eq 100000 (d + 3) s0)
  have c2 := fun D s => callA_trees (cfg := cfg0) (d := D) (s := s) (f := 58) (vs := [.str (cutS s0).2, .str dgs]) rfl (trim_eq (d + 3) (cutS s0).2 (by omega))
  have edg : ([48, 49, 50, 51, 52, 53, 54, 55, 56, 57] : List UInt8) = dgs := rfl
  have z0 : tupZ (0, false) = .tup [encA false .n [], .bool false] := by
    simp only [tupZ, encZ]
    rw [show encR (Int.natAbs 0) = encL .n [] by simp [encR, digs_0]]; rfl
  by_cases hl : (s0.length : Int) > 200
  · have hr : parseR s0 = (0, false) := by
      have : okS s0 = false := by unfold okS; rw [decide_eq_false (by omega)]; rfl
      unfold parseR; rw [if_neg (by rw [this]; decide)]
    rw [hr, z0]
    simp only [zaa, zab, zac, zad, zae, zaf, zag, zah, zai, zaj, zak, zal, zam, zan, zao, zap, zaq, zar, zas, zat, zau, zav, zaw, zax, zay, zaz, zba, zbb, zbc, zbd, zbe, zbf, zbg, zbh, zbi, zbj, Nat.reduceBEq, Bool.or_self, Bool.or_false, Bool.or_true, Bool.and_true, Bool.and_false, Bool.true_and, Bool.false_and, Option.isNone_none, Option.isNone_some, Option.isSome_some, Option.isSome_none, zbk, zbl, zbm, zbn, zbo, zbp, zbq, zbr, zbs, zbt, zbu, zbv, zbw, zbx, zby, zbz, zca, zcb, zcc, zcd, zce, zcf, zcg, zch, zci, zcj, zck, zcl, zcm, zcn, zco, zcp, zcq, zcr, zcs, zct, zcu, zcv, zcw, zcx, zcy, zcz, zda, zdb, zdc, zdd, zde, zdf, Option.getD_some, Option.getD_none, zet, zeu, zev, zew, zex, zey, zez, zfa, Option.map_some, Option.map_none, Option.bind_some, List.map_cons, List.map_nil, List.cons_append, List.nil_append, ↓reduceIte, Nat.reduceEqDiff, Nat.reduceAdd, decide_true, decide_false, Bool.true_eq_false, Bool.false_eq_true, env0, List.getElem?_cons_zero, List.getElem?_cons_succ, zdg, zdh, zdi, zdj, zdk, zdl, zdm, zdn, ia22, ld31, zdo, zdp, zdq, zdr, zds, zdt, zdu, zdv, zdw, zdx, zdy, zdz, zea, zeb, zec, fa_0, fa_1, zed, bd_0, bd_2, zee, fd_1, zef, Nat.zero_add, zeg, List.toList_toArray, len9, ix9, zeh, zei, zej, zek, zel, st0_1, c1, hl]
    exact finish_ct _ _ 2 2 1 _ _ _ _ _ _ _ (by simp only [zfa, ↓reduceIte, Nat.reduceEqDiff]) (by simp only [zfa, ↓reduceIte, Nat.reduceEqDiff]) (by simp only [zfa, ↓reduceIte, Nat.reduceEqDiff]) rfl
  by_cases hd : (cutS s0).2 = []
  · have hr : parseR s0 = (0, false) := by
      have : okS s0 = false := by unfold okS; rw [hd]; simp
      unfold parseR; rw [if_neg (by rw [this]; decide)]
    have q0 : ((cutS s0).2 == []) = true := by rw [hd]; rfl
    rw [hr, z0]
    simp only [zaa, zab, zac, zad, zae, zaf, zag, zah, zai, zaj, zak, zal, zam, zan, zao, zap, zaq, zar, zas, zat, zau, zav, zaw, zax, zay, zaz, zba, zbb, zbc, zbd, zbe, zbf, zbg, zbh, zbi, zbj, Nat.reduceBEq, Bool.or_self, Bool.or_false, Bool.or_true, Bool.and_true, Bool.and_false, Bool.true_and, Bool.false_and, Option.isNone_none, Option.isNone_some, Option.isSome_some, Option.isSome_none, zbk, zbl, zbm, zbn, zbo, zbp, zbq, zbr, zbs, zbt, zbu, zbv, zbw, zbx, zby, zbz, zca, zcb, zcc, zcd, zce, zcf, zcg, zch, zci, zcj, zck, zcl, zcm, zcn, zco, zcp, zcq, zcr, zcs, zct, zcu, zcv, zcw, zcx, zcy, zcz, zda, zdb, zdc, zdd, zde, zdf, Option.getD_some, Option.getD_none, zet, zeu, zev, zew, zex, zey, zez, zfa, Option.map_some, Option.map_none, Option.bind_some, List.map_cons, List.map_nil, List.cons_append, List.nil_append, ↓reduceIte, Nat.reduceEqDiff, Nat.reduceAdd, decide_true, decide_false, Bool.true_eq_false, Bool.false_eq_true, env0, List.getElem?_cons_zero, List.getElem?_cons_succ, zdg, zdh, zdi, zdj, zdk, zdl, zdm, zdn, ia22, ld31, zdo, zdp, zdq, zdr, zds, zdt, zdu, zdv, zdw, zdx, zdy, zdz, zea, zeb, zec, fa_0, fa_1, zed, bd_0, bd_2, zee, fd_1, zef, Nat.zero_add, zeg, List.toList_toArray, len9, ix9, zeh, zei, zej, zek, zel, st0_1, c1, hl, q0]
    exact finish_ct _ _ 2 2 1 _ _ _ _ _ _ _ (by simp only [zfa, ↓reduceIte, Nat.reduceEqDiff]) (by simp only [zfa, ↓reduceIte, Nat.reduceEqDiff]) (by simp only [zfa, ↓reduceIte, Nat.reduceEqDiff]) rfl
  have q0 : ((cutS s0).2 == []) = false := by rw [beq_eq_false_iff_ne]; exact hd
  by_cases ha : (cutS s0).2.all isDg = true
  · have q1 : ((rtrim (cutS s0).2).dropWhile isDg == []) = true := by rw [(trim_nil _).mpr ha]; rfl
    have hok : okS s0 = true := by
      unfold okS
      rw [decide_eq_true (by omega), ha]
      cases hq : (cutS s0).2 with
      | nil => exact absurd hq hd
      | cons _ _ => rfl
    simp only [zaa, zab, zac, zad, zae, zaf, zag, zah, zai, zaj, zak, zal, zam, zan, zao, zap, zaq, zar, zas, zat, zau, zav, zaw, zax, zay, zaz, zba, zbb, zbc, zbd, zbe, zbf, zbg, zbh, zbi, zbj, Nat.reduceBEq, Bool.or_self, Bool.or_false, Bool.or_true, Bool.and_true, Bool.and_false, Bool.true_and, Bool.false_and, Option.isNone_none, Option.isNone_some, Option.isSome_some, Option.isSome_none, zbk, zbl, zbm, zbn, zbo, zbp, zbq, zbr, zbs, zbt, zbu, zbv, zbw, zbx, zby, zbz, zca, zcb, zcc, zcd, zce, zcf, zcg, zch, zci, zcj, zck, zcl, zcm, zcn, zco, zcp, zcq, zcr, zcs, zct, zcu, zcv, zcw, zcx, zcy, zcz, zda, zdb, zdc, zdd, zde, zdf, Option.getD_some, Option.getD_none, zet, zeu, zev, zew, zex, zey, zez, zfa, Option.map_some, Option.map_none, Option.bind_some, List.map_cons, List.map_nil, List.cons_append, List.nil_append, ↓reduceIte, Nat.reduceEqDiff, Nat.reduceAdd, decide_true, decide_false, Bool.true_eq_false, Bool.false_eq_true, env0, List.getElem?_cons_zero, List.getElem?_cons_succ, zdg, zdh, zdi, zdj, zdk, zdl, zdm, zdn, ia22, ld31, zdo, zdp, zdq, zdr, zds, zdt, zdu, zdv, zdw, zdx, zdy, zdz, zea, zeb, zec, fa_0, fa_1, zed, bd_0, bd_2, zee, fd_1, zef, Nat.zero_add, zeg, List.toList_toArray, len9, ix9, zeh, zei, zej, zek, zel, st0_1, c1, hl, q0, edg, c2, q1, Bool.not_true, den_loop]
    have hne : ((cutS s0).2.length : Int) ≤ 200 := by omega
    obtain ⟨ds, hds⟩ : ∃ ds, (cutS s0).2 = ds := ⟨_, rfl⟩
    obtain ⟨neg, hneg⟩ : ∃ neg, (cutS s0).1 = neg := ⟨_, rfl⟩
    have hpr : parseR s0 = if (mkZ (sgn neg (valD ds))).2 && (textZ (mkZ (sgn neg (valD ds))).1 == s0) then ((mkZ (sgn neg (valD ds))).1, true) else (0, false) := by
      unfold parseR; rw [if_pos hok, hds, hneg]
    rw [hds] at hne ha ⊢
    rw [hneg, hpr]
    clear c1 c2 q0 q1 hd hcl hok
    refine loop_ends (X := Nat × AV) (fun x env s => env 0 = .str s0 ∧ env 2 = .ptr 2 1 0 ∧ env 4 = .str ds ∧ env 5 = .bool neg ∧ env 6 = x.2 ∧ env 29 = .int .i64 (ds.length : Int) ∧ env 30 = .int .i64 (x.1 : Int) ∧ s 2 = ⟨1, .buf [.bool false, .sl [] 0 .nil]⟩ ∧ (s 8).t = 0 ∧ x.1 ≤ ds.length ∧ Num x.2 (valD (ds.take x.1)) ∧ isTree x.2 = true) (fun x => ds.length - x.1) (fun _ => (.tree (tupZ (if (mkZ (sgn neg (valD ds))).2 && (textZ (mkZ (sgn neg (valD ds))).1 == s0) then ((mkZ (sgn neg (valD ds))).1, true) else (0, false))), [[]])) ?_ 100000 (0, .sl [] 0 .nil) _ _ (by simp only; omega) ⟨by first | (simp only [zfa, ↓reduceIte, Nat.reduceEqDiff]; done) | (simp only [zfa, ↓reduceIte, Nat.reduceEqDiff]; rfl), by first | (simp only [zfa, ↓reduceIte, Nat.reduceEqDiff]; done) | (simp only [zfa, ↓reduceIte, Nat.reduceEqDiff]; rfl), by first | (simp only [zfa, ↓reduceIte, Nat.reduceEqDiff]; done) | (simp only [zfa, ↓reduceIte, Nat.reduceEqDiff]; rfl), by first | (simp only [zfa, ↓reduceIte, Nat.reduceEqDiff]; done) | (simp only [zfa, ↓reduceIte, Nat.reduceEqDiff]; rfl), by first | (simp only [zfa, ↓reduceIte, Nat.reduceEqDiff]; done) | (simp only [zfa, ↓reduceIte, Nat.reduceEqDiff]; rfl), by first | (simp only [zfa, ↓reduceIte, Nat.reduceEqDiff]; done) | (simp only [zfa, ↓reduceIte, Nat.reduceEqDiff]; rfl), by first | (simp only [zfa, ↓reduceIte, Nat.reduceEqDiff]; done) | (simp only [zfa, ↓reduceIte, Nat.reduceEqDiff]; rfl), by first | (simp only [zfa, ↓reduceIte, Nat.reduceEqDiff]; done) | (simp only [zfa, ↓reduceIte, Nat.reduceEqDiff]; rfl), by simp only [zfa, ↓reduceIte, Nat.reduceEqDiff, zdw], Nat.zero_le _, num_nil, rfl⟩
    intro k ⟨i, w⟩ hxk ih env s ⟨e0, e2, e4, e5, e6, e29, e30, j2, t8, hi, hw, ht⟩
    simp only at e6 e30 hi hw ht hxk
    by_cases hp : i = ds.length
    · subst hp
      clear ih
      have q1 : ¬ (ds.length : Int) < (ds.length : Int) := by omega
      rw [List.take_length] at hw
      have c5 := fun D s => cMade 100000 (d + 4) (Nat.le_refl _) D s hw neg
      rw [madeV_eq] at c5
      have hfit := mkZ_lt (sgn neg (valD ds))
      generalize hmk : mkZ (sgn neg (valD ds)) = mk at *
      obtain ⟨r, ok⟩ := mk
      simp only at c5 hfit ⊢
      cases ok with
      | false =>
        simp only [Bool.false_and, Bool.false_eq_true, if_false]
        rw [z0]
        simp only [zaa, zab, zac, zad, zae, zaf, zag, zah, zai, zaj, zak, zal, zam, zan, zao, zap, zaq, zar, zas, zat, zau, zav, zaw, zax, zay, zaz, zba, zbb, zbc, zbd, zbe, zbf, zbg, zbh, zbi, zbj, Nat.reduceBEq, Bool.or_self, Bool.or_false, Bool.or_true, Bool.and_true, Bool.and_false, Bool.true_and, Bool.false_and, Option.isNone_none, Option.isNone_some, Option.isSome_some, Option.isSome_none, zbk, zbl, zbm, zbn, zbo, zbp, zbq, zbr, zbs, zbt, zbu, zbv, zbw, zbx, zby, zbz, zca, zcb, zcc, zcd, zce, zcf, zcg, zch, zci, zcj, zck, zcl, zcm, zcn, zco, zcp, zcq, zcr, zcs, zct, zcu, zcv, zcw, zcx, zcy, zcz, zda, zdb, zdc, zdd, zde, zdf, Option.getD_some, Option.getD_none, zet, zeu, zev, zew, zex, zey, zez, zfa, Option.map_some, Option.map_none, Option.bind_some, List.map_cons, List.map_nil, List.cons_append, List.nil_append, ↓reduceIte, Nat.reduceEqDiff, Nat.reduceAdd, decide_true, decide_false, Bool.true_eq_false, Bool.false_eq_true, env0, List.getElem?_cons_zero, List.getElem?_cons_succ, zdg, zdh, zdi, zdj, zdk, zdl, zdm, zdn, ia22, ld31, zdo, zdp, zdq, zdr, zds, zdt, zdu, zdv, zdw, zdx, zdy, zdz, zea, zeb, zec, fa_0, fa_1, zed, bd_0, bd_2, zee, fd_1, zef, Nat.zero_add, zeg, List.toList_toArray, len9, ix9, zeh, zei, zej, zek, zel, e0, e2, e4, e5, e6, e29, e30, j2, t8, q1, c5, ext_0, ext_1, st_Z, encZ_fold, unA_not', Bool.not_false]
        exact finish_ct _ _ 2 2 1 _ _ _ _ _ _ _ (by simp only [zfa, ↓reduceIte, Nat.reduceEqDiff, e2]) (by simp only [zfa, ↓reduceIte, Nat.reduceEqDiff]) (by simp only [zfa, ↓reduceIte, Nat.reduceEqDiff]) rfl
      | true =>
        have c6 := fun D s => callA_trees (cfg := cfg0) (d := D) (s := s) (f := 34) (vs := [encZ r]) rfl (text_eq 100000 d (Nat.le_refl _) (isN_Z r hfit))
        cases hq : (textZ r == s0) with
        | false =>
          simp only [Bool.and_false, Bool.false_eq_true, if_false]
          rw [z0]
          simp only [zaa, zab, zac, zad, zae, zaf, zag, zah, zai, zaj, zak, zal, zam, zan, zao, zap, zaq, zar, zas, zat, zau, zav, zaw, zax, zay, zaz, zba, zbb, zbc, zbd, zbe, zbf, zbg, zbh, zbi, zbj, Nat.reduceBEq, Bool.or_self, Bool.or_false, Bool.or_true, Bool.and_true, Bool.and_false, Bool.true_and, Bool.false_and, Option.isNone_none, Option.isNone_some, Option.isSome_some, Option.isSome_none, zbk, zbl, zbm, zbn, zbo, zbp, zbq, zbr, zbs, zbt, zbu, zbv, zbw, zbx, zby, zbz, zca, zcb, zcc, zcd, zce, zcf, zcg, zch, zci, zcj, zck, zcl, zcm, zcn, zco, zcp, zcq, zcr, zcs, zct, zcu, zcv, zcw, zcx, zcy, zcz, zda, zdb, zdc, zdd, zde, zdf, Option.getD_some, Option.getD_none, zet, zeu, zev, zew, zex, zey, zez, zfa, Option.map_some, Option.map_none, Option.bind_some, List.map_cons, List.map_nil, List.cons_append, List.nil_append, ↓reduceIte, Nat.reduceEqDiff, Nat.reduceAdd, decide_true, decide_false, Bool.true_eq_false, Bool.false_eq_true, env0, List.getElem?_cons_zero, List.getElem?_cons_succ, zdg, zdh, zdi, zdj, zdk, zdl, zdm, zdn, ia22, ld31, zdo, zdp, zdq, zdr, zds, zdt, zdu, zdv, zdw, zdx, zdy, zdz, zea, zeb, zec, fa_0, fa_1, zed, bd_0, bd_2, zee, fd_1, zef, Nat.zero_add, zeg, List.toList_toArray, len9, ix9, zeh, zei, zej, zek, zel, e0, e2, e4, e5, e6, e29, e30, j2, t8, q1, c5, ext_0, ext_1, st_Z, encZ_fold, unA_not', Bool.not_true, c6, hq, Bool.not_false]
          exact finish_ct _ _ 2 2 1 _ _ _ _ _ _ _ (by simp only [zfa, ↓reduceIte, Nat.reduceEqDiff, e2]) (by simp only [zfa, ↓reduceIte, Nat.reduceEqDiff]) (by simp only [zfa, ↓reduceIte, Nat.reduceEqDiff]) rfl
        | true =>
          simp only [Bool.and_self, if_true, tupZ]
          simp only [zaa, zab, zac, zad, zae, zaf, zag, zah, zai, zaj, zak, zal, zam, zan, zao, zap, zaq, zar, zas, zat, zau, zav, zaw, zax, zay, zaz, zba, zbb, zbc, zbd, zbe, zbf, zbg, zbh, zbi, zbj, Nat.reduceBEq, Bool.or_self, Bool.or_false, Bool.or_true, Bool.and_true, Bool.and_false, Bool.true_and, Bool.false_and, Option.isNone_none, Option.isNone_some, Option.isSome_some, Option.isSome_none, zbk, zbl, zbm, zbn, zbo, zbp, zbq, zbr, zbs, zbt, zbu, zbv, zbw, zbx, zby, zbz, zca, zcb, zcc, zcd, zce, zcf, zcg, zch, zci, zcj, zck, zcl, zcm, zcn, zco, zcp, zcq, zcr, zcs, zct, zcu, zcv, zcw, zcx, zcy, zcz, zda, zdb, zdc, zdd, zde, zdf, Option.getD_some, Option.getD_none, zet, zeu, zev, zew, zex, zey, zez, zfa, Option.map_some, Option.map_none, Option.bind_some, List.map_cons, List.map_nil, List.cons_append, List.nil_append, ↓reduceIte, Nat.reduceEqDiff, Nat.reduceAdd, decide_true, decide_false, Bool.true_eq_false, Bool.false_eq_true, env0, List.getElem?_cons_zero, List.getElem?_cons_succ, zdg, zdh, zdi, zdj, zdk, zdl, zdm, zdn, ia22, ld31, zdo, zdp, zdq, zdr, zds, zdt, zdu, zdv, zdw, zdx, zdy, zdz, zea, zeb, zec, fa_0, fa_1, zed, bd_0, bd_2, zee, fd_1, zef, Nat.zero_add, zeg, List.toList_toArray, len9, ix9, zeh, zei, zej, zek, zel, e0, e2, e4, e5, e6, e29, e30, j2, t8, q1, c5, ext_0, ext_1, st_Z, encZ_fold, unA_not', Bool.not_true, c6, hq]
          exact finish_ct _ _ 2 2 1 _ _ _ _ _ _ _ (by simp only [zfa, ↓reduceIte, Nat.reduceEqDiff, e2]) (by simp only [zfa, ↓reduceIte, Nat.reduceEqDiff]) (by simp only [zfa, ↓reduceIte, Nat.reduceEqDiff]) rfl
    · have hi' : i < ds.length := by omega
      have q1 : (i : Int) < (ds.length : Int) := by omega
      have q2 : (0 : Int) ≤ (i : Int) ∧ (i : Int) < (ds.length : Int) := by omega
      have hv := valD_take ds i hi'
      have hvB := val_B (take_all i ha) (by rw [List.length_take]; omega)
      have hc := dg_at ha i hi'
      generalize hcc : (ds.getD i 0).toNat = c at *
      have b1 := u8_sub48 Tryd.prog 5 c hc.1 (by omega)
      have b2 := fun s => conv5_31 s (c - 48) (by omega)
      have h201 : valD (ds.take i) * 10 < 10 ^ 201 := by rw [show (201 : Nat) = 200 + 1 from rfl, Nat.pow_succ]; omega
      have c3 := qMul 100000 (d + 4) (Nat.le_refl _) hw num_10 ht rfl
      have c4 := qAdd 100000 (d + 4) (Nat.le_refl _) (num_R (valD (ds.take i) * 10) 21 (by decide) (Nat.lt_trans h201 ten200)) (num_1 (c - 48) (by omega)) (tree_R _) rfl
      rw [← hv] at c4
      have a1 := i_add Tryd.prog 3 (i : Int) 1 (by omega) (by omega)
      simp only [zaa, zab, zac, zad, zae, zaf, zag, zah, zai, zaj, zak, zal, zam, zan, zao, zap, zaq, zar, zas, zat, zau, zav, zaw, zax, zay, zaz, zba, zbb, zbc, zbd, zbe, zbf, zbg, zbh, zbi, zbj, Nat.reduceBEq, Bool.or_self, Bool.or_false, Bool.or_true, Bool.and_true, Bool.and_false, Bool.true_and, Bool.false_and, Option.isNone_none, Option.isNone_some, Option.isSome_some, Option.isSome_none, zbk, zbl, zbm, zbn, zbo, zbp, zbq, zbr, zbs, zbt, zbu, zbv, zbw, zbx, zby, zbz, zca, zcb, zcc, zcd, zce, zcf, zcg, zch, zci, zcj, zck, zcl, zcm, zcn, zco, zcp, zcq, zcr, zcs, zct, zcu, zcv, zcw, zcx, zcy, zcz, zda, zdb, zdc, zdd, zde, zdf, Option.getD_some, Option.getD_none, zet, zeu, zev, zew, zex, zey, zez, zfa, Option.map_some, Option.map_none, Option.bind_some, List.map_cons, List.map_nil, List.cons_append, List.nil_append, ↓reduceIte, Nat.reduceEqDiff, Nat.reduceAdd, decide_true, decide_false, Bool.true_eq_false, Bool.false_eq_true, env0, List.getElem?_cons_zero, List.getElem?_cons_succ, zdg, zdh, zdi, zdj, zdk, zdl, zdm, zdn, ia22, ld31, zdo, zdp, zdq, zdr, zds, zdt, zdu, zdv, zdw, zdx, zdy, zdz, zea, zeb, zec, fa_0, fa_1, zed, bd_0, bd_2, zee, fd_1, zef, Nat.zero_add, zeg, List.toList_toArray, len9, ix9, zeh, zei, zej, zek, zel, e0, e2, e4, e5, e6, e29, e30, j2, q1, opA_one, one22_int, c3, q2, and_self, Int.toNat_natCast, hcc, b1, b2, c4, a1]
      refine ih (i + 1, encR (valD (ds.take (i + 1)))) _ _ (by simp only; omega) rfl ⟨?_, ?_, ?_, ?_, ?_, ?_, ?_, j2, t8, by simp only; omega, ?_, tree_R _⟩
      · simp only [zfa, ↓reduceIte, Nat.reduceEqDiff, e0]
      · simp only [zfa, ↓reduceIte, Nat.reduceEqDiff, e2]
      · simp only [zfa, ↓reduceIte, Nat.reduceEqDiff, e4]
      · simp only [zfa, ↓reduceIte, Nat.reduceEqDiff, e5]
      · simp only [zfa, ↓reduceIte, Nat.reduceEqDiff]
      · simp only [zfa, ↓reduceIte, Nat.reduceEqDiff, e29]
      · simp only [zfa, ↓reduceIte, Nat.reduceEqDiff]; rfl
      · exact num_R _ 21 (by decide) (Nat.lt_trans (val_B (take_all (i + 1) ha) (by rw [List.length_take]; omega)) (Nat.lt_trans (Nat.pow_lt_pow_right (by decide) (by decide)) ten200))
  · have q1 : ((rtrim (cutS s0).2).dropWhile isDg == []) = false := by rw [beq_eq_false_iff_ne]; exact fun h => ha ((trim_nil _).mp h)
    have hr : parseR s0 = (0, false) := by
      have : okS s0 = false := by unfold okS; rw [eq_false_of_ne_true ha, Bool.and_false]
      unfold parseR; rw [if_neg (by rw [this]; decide)]
    rw [hr, z0]
    simp only [zaa, zab, zac, zad, zae, zaf, zag, zah, zai, zaj, zak, zal, zam, zan, zao, zap, zaq, zar, zas, zat, zau, zav, zaw, zax, zay, zaz, zba, zbb, zbc, zbd, zbe, zbf, zbg, zbh, zbi, zbj, Nat.reduceBEq, Bool.or_self, Bool.or_false, Bool.or_true, Bool.and_true, Bool.and_false, Bool.true_and, Bool.false_and, Option.isNone_none, Option.isNone_some, Option.isSome_some, Option.isSome_none, zbk, zbl, zbm, zbn, zbo, zbp, zbq, zbr, zbs, zbt, zbu, zbv, zbw, zbx, zby, zbz, zca, zcb, zcc, zcd, zce, zcf, zcg, zch, zci, zcj, zck, zcl, zcm, zcn, zco, zcp, zcq, zcr, zcs, zct, zcu, zcv, zcw, zcx, zcy, zcz, zda, zdb, zdc, zdd, zde, zdf, Option.getD_some, Option.getD_none, zet, zeu, zev, zew, zex, zey, zez, zfa, Option.map_some, Option.map_none, Option.bind_some, List.map_cons, List.map_nil, List.cons_append, List.nil_append, ↓reduceIte, Nat.reduceEqDiff, Nat.reduceAdd, decide_true, decide_false, Bool.true_eq_false, Bool.false_eq_true, env0, List.getElem?_cons_zero, List.getElem?_cons_succ, zdg, zdh, zdi, zdj, zdk, zdl, zdm, zdn, ia22, ld31, zdo, zdp, zdq, zdr, zds, zdt, zdu, zdv, zdw, zdx, zdy, zdz, zea, zeb, zec, fa_0, fa_1, zed, bd_0, bd_2, zee, fd_1, zef, Nat.zero_add, zeg, List.toList_toArray, len9, ix9, zeh, zei, zej, zek, zel, st0_1, c1, hl, q0, edg, c2, q1, Bool.not_false]
    exact finish_ct _ _ 2 2 1 _ _ _ _ _ _ _ (by simp only [zfa, ↓reduceIte, Nat.reduceEqDiff]) (by simp only [zfa, ↓reduceIte, Nat.reduceEqDiff]) (by simp only [zfa, ↓reduceIte, Nat.reduceEqDiff]) rfl
end Go.Ab

/- The number of a text, as the reference has it. Conditions: none beyond the text. -/
namespace Go.Ab
open Go.Proofs
set_option maxRecDepth 100000
set_option linter.unusedSimpArgs false

theorem parse_all {s0 : List UInt8} (hl : s0.length ≤ 200) (ha : (cutS s0).2.all isDg = true) : parseR s0 = if (mkZ (sgn (cutS s0).1 (valD (cutS s0).2))).2 && (textZ (mkZ (sgn (cutS s0).1 (valD (cutS s0).2))).1 == s0) then ((mkZ (sgn (cutS s0).1 (valD (cutS s0).2))).1, true) else (0, false) := by
  by_cases hd : (cutS s0).2 = []
  · have h1 : okS s0 = false := by unfold okS; rw [hd]; simp
    have h2 : sgn (cutS s0).1 (valD []) = 0 := by
      show sgn (cutS s0).1 0 = 0
      unfold sgn; split <;> rfl
    have h3 : mkZ 0 = (0, true) := mkZ_fit (Nat.pow_pos (by decide))
    have h4 : (textZ 0 == s0) = false := by
      rw [beq_eq_false_iff_ne]
      intro h
      rw [← h] at hd
      revert hd; decide
    rw [hd, h2, h3]
    unfold parseR
    rw [if_neg (by rw [h1]; decide), h4]
    rfl
  · have h1 : okS s0 = true := by
      unfold okS
      rw [decide_eq_true hl, ha]
      cases hq : (cutS s0).2 with
      | nil => exact absurd hq hd
      | cons _ _ => rfl
    unfold parseR
    rw [if_pos h1]
def offS (s0 : List UInt8) : Nat := if (cutS s0).1 = true then 1 else 0
theorem cut_at (s0 : List UInt8) (i : Nat) (h : offS s0 ≤ i) : s0.getD i 0 = (cutS s0).2.getD (i - offS s0) 0 := by
  unfold offS at h ⊢
  cases hc : (cutS s0).1 with
  | true =>
    rw [hc] at h
    simp only [if_true] at h ⊢
    rw [(cut_len s0 hc).1, List.getD_eq_getElem?_getD, List.getD_eq_getElem?_getD, List.getElem?_drop, show 1 + (i - 1) = i by omega]
  | false => rw [cut_no s0 hc]; simp
theorem cut_length (s0 : List UInt8) : s0.length = offS s0 + (cutS s0).2.length := by
  unfold offS
  cases hc : (cutS s0).1 with
  | true =>
    have := cut_len s0 hc
    rw [this.1, List.length_drop]; simp; omega
  | false => rw [cut_no s0 hc]; simp
set_option maxHeartbeats 16000000 in
theorem rparse_eq (n d : Nat) (hn : 100000 ≤ n) (s0 : List UInt8) (hs : s0.length ≤ 1000) : ∃ g, evalFn Tryd.prog cfg0 n (d+6) 33 [.tree (.str s0)] = some (.tree (tupF g (parseR s0)), [[]]) := by
  have big := B12_big
  by_cases hl : (s0.length : Int) > 200
  · have hr : parseR s0 = (0, false) := by
      have : okS s0 = false := by unfold okS; rw [decide_eq_false (by omega)]; rfl
      unfold parseR; rw [if_neg (by rw [this]; decide)]
    refine ⟨.n, ?_⟩
    rw [evalFn_go _ Tryd.func33 (by unfold Tryd.f33; rfl) (by unfold Tryd.f33; decide) (Nat.le_of_ble_eq_true (by unfold Tryd.f33; rfl)) (by kernel_rfl)]
    rw [hr, ← tupF_0]
    simp only [zaa, zab, zac, zad, zae, zaf, zag, zah, zai, zaj, zak, zal, zam, zan, zao, zap, zaq, zar, zas, zat, zau, zav, zaw, zax, zay, zaz, zba, zbb, zbc, zbd, zbe, zbf, zbg, zbh, zbi, zbj, Nat.reduceBEq, Bool.or_self, Bool.or_false, Bool.or_true, Bool.and_true, Bool.and_false, Bool.true_and, Bool.false_and, Option.isNone_none, Option.isNone_some, Option.isSome_some, Option.isSome_none, zbk, zbl, zbm, zbn, zbo, zbp, zbq, zbr, zbs, zbt, zbu, zbv, zbw, zbx, zby, zbz, zca, zcb, zcc, zcd, zce, zcf, zcg, zch, zci, zcj, zck, zcl, zcm, zcn, zco, zcp, zcq, zcr, zcs, zct, zcu, zcv, zcw, zcx, zcy, zcz, zda, zdb, zdc, zdd, zde, zdf, Option.getD_some, Option.getD_none, zet, zeu, zev, zew, zex, zey, zez, zfa, Option.map_some, Option.map_none, Option.bind_some, List.map_cons, List.map_nil, List.cons_append, List.nil_append, ↓reduceIte, Nat.reduceEqDiff, Nat.reduceAdd, decide_true, decide_false, Bool.true_eq_false, Bool.false_eq_true, env0, List.getElem?_cons_zero, List.getElem?_cons_succ, zdg, zdh, zdi, zdj, zdk, zdl, zdm, zdn, ia22, ld31, zdo, zdp, zdq, zdr, zds, zdt, zdu, zdv, zdw, zdx, zdy, zdz, zea, zeb, zec, fa_0, fa_1, zed, bd_0, bd_2, zee, fd_1, zef, Nat.zero_add, zeg, List.toList_toArray, len9, ix9, zeh, zei, zej, zek, zel, st0_1, hl]
    exact finish_ct _ _ 2 2 1 _ _ _ _ _ _ _ (by simp only [zfa, ↓reduceIte, Nat.reduceEqDiff]) (by simp only [zfa, ↓reduceIte, Nat.reduceEqDiff]) (by simp only [zfa, ↓reduceIte, Nat.reduceEqDiff]) rfl
  have hpos : ((s0.length : Int) > 0 → (((s0.getD 0 0).toNat : Int) == 45) = (cutS s0).1) ∧ (¬ (s0.length : Int) > 0 → (cutS s0).1 = false) := by
    cases s0 with
    | nil => exact ⟨fun h => absurd h (by decide), fun _ => rfl⟩
    | cons a r =>
      refine ⟨fun _ => ?_, fun h => absurd h (by simp)⟩
      show ((a.toNat : Int) == 45) = (if a = 45 then (true, r) else (false, a :: r)).1
      by_cases h : a = 45
      · rw [h]; rfl
      · rw [if_neg h, beq_eq_false_iff_ne]
        intro hc
        exact h (UInt8.toNat_inj.mp (by show a.toNat = 45; omega))
  have hlen := cut_length s0
  have hcat := cut_at s0
  have hoff : offS s0 = if (cutS s0).1 = true then 1 else 0 := rfl
  have hall : ∀ (h : (cutS s0).2.all isDg = true), parseR s0 = _ := fun h => parse_all (by omega) h
  have hnone : ¬ (cutS s0).2.all isDg = true → parseR s0 = (0, false) := fun ha => by
    have : okS s0 = false := by unfold okS; rw [eq_false_of_ne_true ha, Bool.and_false]
    unfold parseR; rw [if_neg (by rw [this]; decide)]
  obtain ⟨ds, hds⟩ : ∃ ds, (cutS s0).2 = ds := ⟨_, rfl⟩
  obtain ⟨neg, hneg⟩ : ∃ neg, (cutS s0).1 = neg := ⟨_, rfl⟩
  obtain ⟨off, hof⟩ : ∃ off, offS s0 = off := ⟨_, rfl⟩
  rw [hds, hneg] at hall
  rw [hds] at hnone hlen
  rw [hneg] at hpos
  rw [hof] at hlen hcat hoff
  rw [hds] at hcat
  rw [hneg] at hoff
  -- what comes out, in each case
  obtain ⟨g, hg⟩ : ∃ g : Gk, g = if ds.all isDg = true ∧ (parseR s0).2 = true then .l else .n := ⟨_, rfl⟩
  refine ⟨g, ?_⟩
  rw [evalFn_go _ Tryd.func33 (by unfold Tryd.f33; rfl) (by unfold Tryd.f33; decide) (Nat.le_of_ble_eq_true (by unfold Tryd.f33; rfl)) (by kernel_rfl)]
  by_cases hp0 : (s0.length : Int) > 0
  · have q0 : (0 : Int) ≤ 0 ∧ (0 : Int) < (s0.length : Int) := ⟨Int.le_refl _, hp0⟩
    have q00 : (((s0.getD (Int.toNat 0) 0).toNat : Int) == 45) = neg := hpos.1 hp0
    simp only [zaa, zab, zac, zad, zae, zaf, zag, zah, zai, zaj, zak, zal, zam, zan, zao, zap, zaq, zar, zas, zat, zau, zav, zaw, zax, zay, zaz, zba, zbb, zbc, zbd, zbe, zbf, zbg, zbh, zbi, zbj, Nat.reduceBEq, Bool.or_self, Bool.or_false, Bool.or_true, Bool.and_true, Bool.and_false, Bool.true_and, Bool.false_and, Option.isNone_none, Option.isNone_some, Option.isSome_some, Option.isSome_none, zbk, zbl, zbm, zbn, zbo, zbp, zbq, zbr, zbs, zbt, zbu, zbv, zbw, zbx, zby, zbz, zca, zcb, zcc, zcd, zce, zcf, zcg, zch, zci, zcj, zck, zcl, zcm, zcn, zco, zcp, zcq, zcr, zcs, zct, zcu, zcv, zcw, zcx, zcy, zcz, zda, zdb, zdc, zdd, zde, zdf, Option.getD_some, Option.getD_none, zet, zeu, zev, zew, zex, zey, zez, zfa, Option.map_some, Option.map_none, Option.bind_some, List.map_cons, List.map_nil, List.cons_append, List.nil_append, ↓reduceIte, Nat.reduceEqDiff, Nat.reduceAdd, decide_true, decide_false, Bool.true_eq_false, Bool.false_eq_true, env0, List.getElem?_cons_zero, List.getElem?_cons_succ, zdg, zdh, zdi, zdj, zdk, zdl, zdm, zdn, ia22, ld31, zdo, zdp, zdq, zdr, zds, zdt, zdu, zdv, zdw, zdx, zdy, zdz, zea, zeb, zec, fa_0, fa_1, zed, bd_0, bd_2, zee, fd_1, zef, Nat.zero_add, zeg, List.toList_toArray, len9, ix9, zeh, zei, zej, zek, zel, st0_1, hl, hp0, q0, and_self, q00, den_loop]
    refine loop_ends (X := Nat × AV) (fun x env s => env 0 = .str s0 ∧ env 2 = .ptr 2 1 0 ∧ env 4 = .bool neg ∧ env 5 = x.2 ∧ env 6 = .int .i64 (x.1 : Int) ∧ s 2 = ⟨1, .buf [.bool false, .sl [] 0 .nil]⟩ ∧ (s 7).t = 0 ∧ x.1 ≤ s0.length ∧ Num x.2 (valD (ds.take (x.1 - off))) ∧ isTree x.2 = true ∧ (ds.take (x.1 - off)).all isDg = true) (fun x => s0.length - x.1) (fun _ => (.tree (tupF g (parseR s0)), [[]])) ?_ n (0, .sl [] 0 .nil) _ _ (by simp only; omega) ⟨by first | (simp only [zfa, ↓reduceIte, Nat.reduceEqDiff]; done) | (simp only [zfa, ↓reduceIte, Nat.reduceEqDiff]; rfl), by first | (simp only [zfa, ↓reduceIte, Nat.reduceEqDiff]; done) | (simp only [zfa, ↓reduceIte, Nat.reduceEqDiff]; rfl), by first | (simp only [zfa, ↓reduceIte, Nat.reduceEqDiff]; done) | (simp only [zfa, ↓reduceIte, Nat.reduceEqDiff]; rfl), by first | (simp only [zfa, ↓reduceIte, Nat.reduceEqDiff]; done) | (simp only [zfa, ↓reduceIte, Nat.reduceEqDiff]; rfl), by first | (simp only [zfa, ↓reduceIte, Nat.reduceEqDiff]; done) | (simp only [zfa, ↓reduceIte, Nat.reduceEqDiff]; rfl), by first | (simp only [zfa, ↓reduceIte, Nat.reduceEqDiff]; done) | (simp only [zfa, ↓reduceIte, Nat.reduceEqDiff]; rfl), by simp only [zfa, ↓reduceIte, Nat.reduceEqDiff, zdw], Nat.zero_le _, by rw [Nat.zero_sub, List.take_zero]; exact num_nil, rfl, by rw [Nat.zero_sub, List.take_zero]; rfl⟩
    clear hpos
    intro k ⟨i, w⟩ hxk ih env s ⟨e0, e2, e4, e5, e6, j2, t7, hi, hw, ht, hta⟩
    simp only at e5 e6 hi hw ht hta hxk
    by_cases hend : i = s0.length
    · subst hend
      clear ih
      have q1 : ¬ (s0.length : Int) < (s0.length : Int) := by omega
      rw [show s0.length - off = ds.length by omega, List.take_length] at hw hta
      have hpr := hall hta
      have c5 := fun D s => cRmade n (d + 3) hn D s hw neg
      rw [madeF] at c5
      have hfit := mkZ_lt (sgn neg (valD ds))
      have hgm : (mkZ (sgn neg (valD ds))).2 = true → gm (sgn neg (valD ds)) = .l := fun h => by
        unfold mkZ at h
        unfold gm
        split at h
        · rename_i hh; rw [if_pos hh]
        · cases h
      generalize hmk : mkZ (sgn neg (valD ds)) = mk at *
      obtain ⟨r, ok⟩ := mk
      simp only at c5 hfit hpr hgm
      cases ok with
      | false =>
        simp only [Bool.false_and, Bool.false_eq_true, if_false] at hpr
        rw [hg, hpr, if_neg (fun h => by cases h.2), ← tupF_0]
        simp only [zaa, zab, zac, zad, zae, zaf, zag, zah, zai, zaj, zak, zal, zam, zan, zao, zap, zaq, zar, zas, zat, zau, zav, zaw, zax, zay, zaz, zba, zbb, zbc, zbd, zbe, zbf, zbg, zbh, zbi, zbj, Nat.reduceBEq, Bool.or_self, Bool.or_false, Bool.or_true, Bool.and_true, Bool.and_false, Bool.true_and, Bool.false_and, Option.isNone_none, Option.isNone_some, Option.isSome_some, Option.isSome_none, zbk, zbl, zbm, zbn, zbo, zbp, zbq, zbr, zbs, zbt, zbu, zbv, zbw, zbx, zby, zbz, zca, zcb, zcc, zcd, zce, zcf, zcg, zch, zci, zcj, zck, zcl, zcm, zcn, zco, zcp, zcq, zcr, zcs, zct, zcu, zcv, zcw, zcx, zcy, zcz, zda, zdb, zdc, zdd, zde, zdf, Option.getD_some, Option.getD_none, zet, zeu, zev, zew, zex, zey, zez, zfa, Option.map_some, Option.map_none, Option.bind_some, List.map_cons, List.map_nil, List.cons_append, List.nil_append, ↓reduceIte, Nat.reduceEqDiff, Nat.reduceAdd, decide_true, decide_false, Bool.true_eq_false, Bool.false_eq_true, env0, List.getElem?_cons_zero, List.getElem?_cons_succ, zdg, zdh, zdi, zdj, zdk, zdl, zdm, zdn, ia22, ld31, zdo, zdp, zdq, zdr, zds, zdt, zdu, zdv, zdw, zdx, zdy, zdz, zea, zeb, zec, fa_0, fa_1, zed, bd_0, bd_2, zee, fd_1, zef, Nat.zero_add, zeg, List.toList_toArray, len9, ix9, zeh, zei, zej, zek, zel, e0, e2, e4, e5, e6, j2, t7, q1, c5, ext_0, ext_1, zeb, unA_not', Bool.not_false]
        exact finish_ct _ _ 2 2 1 _ _ _ _ _ _ _ (by simp only [zfa, ↓reduceIte, Nat.reduceEqDiff, e2]) (by simp only [zfa, ↓reduceIte, Nat.reduceEqDiff]) (by simp only [zfa, ↓reduceIte, Nat.reduceEqDiff]) rfl
      | true =>
        rw [hgm rfl] at c5
        have c6 := fun D s => callA_trees (cfg := cfg0) (d := D) (s := s) (f := 35) (vs := [canA .l r]) rfl (rtext_eq n d hn (isN_can .l r hfit))
        cases hq : (textZ r == s0) with
        | false =>
          rw [hq] at hpr
          simp only [Bool.and_false, Bool.false_eq_true, if_false] at hpr
          rw [hg, hpr, if_neg (fun h => by cases h.2), ← tupF_0]
          simp only [zaa, zab, zac, zad, zae, zaf, zag, zah, zai, zaj, zak, zal, zam, zan, zao, zap, zaq, zar, zas, zat, zau, zav, zaw, zax, zay, zaz, zba, zbb, zbc, zbd, zbe, zbf, zbg, zbh, zbi, zbj, Nat.reduceBEq, Bool.or_self, Bool.or_false, Bool.or_true, Bool.and_true, Bool.and_false, Bool.true_and, Bool.false_and, Option.isNone_none, Option.isNone_some, Option.isSome_some, Option.isSome_none, zbk, zbl, zbm, zbn, zbo, zbp, zbq, zbr, zbs, zbt, zbu, zbv, zbw, zbx, zby, zbz, zca, zcb, zcc, zcd, zce, zcf, zcg, zch, zci, zcj, zck, zcl, zcm, zcn, zco, zcp, zcq, zcr, zcs, zct, zcu, zcv, zcw, zcx, zcy, zcz, zda, zdb, zdc, zdd, zde, zdf, Option.getD_some, Option.getD_none, zet, zeu, zev, zew, zex, zey, zez, zfa, Option.map_some, Option.map_none, Option.bind_some, List.map_cons, List.map_nil, List.cons_append, List.nil_append, ↓reduceIte, Nat.reduceEqDiff, Nat.reduceAdd, decide_true, decide_false, Bool.true_eq_false, Bool.false_eq_true, env0, List.getElem?_cons_zero, List.getElem?_cons_succ, zdg, zdh, zdi, zdj, zdk, zdl, zdm, zdn, ia22, ld31, zdo, zdp, zdq, zdr, zds, zdt, zdu, zdv, zdw, zdx, zdy, zdz, zea, zeb, zec, fa_0, fa_1, zed, bd_0, bd_2, zee, fd_1, zef, Nat.zero_add, zeg, List.toList_toArray, len9, ix9, zeh, zei, zej, zek, zel, e0, e2, e4, e5, e6, j2, t7, q1, c5, ext_0, ext_1, zeb, unA_not', Bool.not_true, c6, hq, Bool.not_false]
          exact finish_ct _ _ 2 2 1 _ _ _ _ _ _ _ (by simp only [zfa, ↓reduceIte, Nat.reduceEqDiff, e2]) (by simp only [zfa, ↓reduceIte, Nat.reduceEqDiff]) (by simp only [zfa, ↓reduceIte, Nat.reduceEqDiff]) rfl
        | true =>
          rw [hq] at hpr
          simp only [Bool.and_self, if_true] at hpr
          rw [hg, hpr, if_pos ⟨hta, rfl⟩, tupF]
          simp only [zaa, zab, zac, zad, zae, zaf, zag, zah, zai, zaj, zak, zal, zam, zan, zao, zap, zaq, zar, zas, zat, zau, zav, zaw, zax, zay, zaz, zba, zbb, zbc, zbd, zbe, zbf, zbg, zbh, zbi, zbj, Nat.reduceBEq, Bool.or_self, Bool.or_false, Bool.or_true, Bool.and_true, Bool.and_false, Bool.true_and, Bool.false_and, Option.isNone_none, Option.isNone_some, Option.isSome_some, Option.isSome_none, zbk, zbl, zbm, zbn, zbo, zbp, zbq, zbr, zbs, zbt, zbu, zbv, zbw, zbx, zby, zbz, zca, zcb, zcc, zcd, zce, zcf, zcg, zch, zci, zcj, zck, zcl, zcm, zcn, zco, zcp, zcq, zcr, zcs, zct, zcu, zcv, zcw, zcx, zcy, zcz, zda, zdb, zdc, zdd, zde, zdf, Option.getD_some, Option.getD_none, zet, zeu, zev, zew, zex, zey, zez, zfa, Option.map_some, Option.map_none, Option.bind_some, List.map_cons, List.map_nil, List.cons_append, List.nil_append, ↓reduceIte, Nat.reduceEqDiff, Nat.reduceAdd, decide_true, decide_false, Bool.true_eq_false, Bool.false_eq_true, env0, List.getElem?_cons_zero, List.getElem?_cons_succ, zdg, zdh, zdi, zdj, zdk, zdl, zdm, zdn, ia22, ld31, zdo, zdp, zdq, zdr, zds, zdt, zdu, zdv, zdw, zdx, zdy, zdz, zea, zeb, zec, fa_0, fa_1, zed, bd_0, bd_2, zee, fd_1, zef, Nat.zero_add, zeg, List.toList_toArray, len9, ix9, zeh, zei, zej, zek, zel, e0, e2, e4, e5, e6, j2, t7, q1, c5, ext_0, ext_1, zeb, unA_not', Bool.not_true, c6, hq]
          exact finish_ct _ _ 2 2 1 _ _ _ _ _ _ _ (by simp only [zfa, ↓reduceIte, Nat.reduceEqDiff, e2]) (by simp only [zfa, ↓reduceIte, Nat.reduceEqDiff]) (by simp only [zfa, ↓reduceIte, Nat.reduceEqDiff]) rfl
    · have hi' : i < s0.length := by omega
      have q1 : (i : Int) < (s0.length : Int) := by omega
      by_cases hi0 : i = 0
      · have q2 : ((i : Int) == 0) = true := by rw [hi0]; rfl
        cases hng : neg with
        | true =>
          rw [hng] at e4
          have a1 := i_add Tryd.prog 3 (i : Int) 1 (by omega) (by omega)
          simp only [zaa, zab, zac, zad, zae, zaf, zag, zah, zai, zaj, zak, zal, zam, zan, zao, zap, zaq, zar, zas, zat, zau, zav, zaw, zax, zay, zaz, zba, zbb, zbc, zbd, zbe, zbf, zbg, zbh, zbi, zbj, Nat.reduceBEq, Bool.or_self, Bool.or_false, Bool.or_true, Bool.and_true, Bool.and_false, Bool.true_and, Bool.false_and, Option.isNone_none, Option.isNone_some, Option.isSome_some, Option.isSome_none, zbk, zbl, zbm, zbn, zbo, zbp, zbq, zbr, zbs, zbt, zbu, zbv, zbw, zbx, zby, zbz, zca, zcb, zcc, zcd, zce, zcf, zcg, zch, zci, zcj, zck, zcl, zcm, zcn, zco, zcp, zcq, zcr, zcs, zct, zcu, zcv, zcw, zcx, zcy, zcz, zda, zdb, zdc, zdd, zde, zdf, Option.getD_some, Option.getD_none, zet, zeu, zev, zew, zex, zey, zez, zfa, Option.map_some, Option.map_none, Option.bind_some, List.map_cons, List.map_nil, List.cons_append, List.nil_append, ↓reduceIte, Nat.reduceEqDiff, Nat.reduceAdd, decide_true, decide_false, Bool.true_eq_false, Bool.false_eq_true, env0, List.getElem?_cons_zero, List.getElem?_cons_succ, zdg, zdh, zdi, zdj, zdk, zdl, zdm, zdn, ia22, ld31, zdo, zdp, zdq, zdr, zds, zdt, zdu, zdv, zdw, zdx, zdy, zdz, zea, zeb, zec, fa_0, fa_1, zed, bd_0, bd_2, zee, fd_1, zef, Nat.zero_add, zeg, List.toList_toArray, len9, ix9, zeh, zei, zej, zek, zel, e0, e2, e4, e5, e6, j2, t7, q1, q2, a1]
          have ho1 : off = 1 := by rw [hoff, hng]; rfl
          refine ih (i + 1, w) _ _ (by simp only; omega) rfl ⟨?_, ?_, ?_, ?_, ?_, j2, t7, by simp only; omega, ?_, ht, ?_⟩
          · simp only [zfa, ↓reduceIte, Nat.reduceEqDiff, e0]
          · simp only [zfa, ↓reduceIte, Nat.reduceEqDiff, e2]
          · simp only [zfa, ↓reduceIte, Nat.reduceEqDiff, e4, hng]
          · simp only [zfa, ↓reduceIte, Nat.reduceEqDiff, e5]
          · simp only [zfa, ↓reduceIte, Nat.reduceEqDiff]; rfl
          · rw [show i + 1 - off = i - off by omega]; exact hw
          · rw [show i + 1 - off = i - off by omega]; exact hta
        | false =>
          subst hng
          have hge : off ≤ i := by first | omega | (rw [hoff, if_neg (by decide)]; exact Nat.zero_le _)
          have hji : i - off < ds.length := by omega
          have q3 : (0 : Int) ≤ (i : Int) ∧ (i : Int) < (s0.length : Int) := by omega
          have hci := hcat i hge
          generalize hcc : (s0.getD i 0).toNat = c at *
          have hc256 : c < 256 := by rw [← hcc]; exact UInt8.toNat_lt _
          have hnd : ¬ (48 ≤ c ∧ c ≤ 57) → ¬ ds.all isDg = true := fun h ha' => by
            have := dg_at ha' (i - off) hji
            rw [← hci, hcc] at this
            exact h this
          have a1 := i_add Tryd.prog 3 (i : Int) 1 (by omega) (by omega)
          by_cases h48 : c < 48
          · have q4 : (c : Int) < 48 := by omega
            have hna := hnd (by omega)
            rw [hnone hna, hg, if_neg (fun h => hna h.1), ← tupF_0]
            simp only [zaa, zab, zac, zad, zae, zaf, zag, zah, zai, zaj, zak, zal, zam, zan, zao, zap, zaq, zar, zas, zat, zau, zav, zaw, zax, zay, zaz, zba, zbb, zbc, zbd, zbe, zbf, zbg, zbh, zbi, zbj, Nat.reduceBEq, Bool.or_self, Bool.or_false, Bool.or_true, Bool.and_true, Bool.and_false, Bool.true_and, Bool.false_and, Option.isNone_none, Option.isNone_some, Option.isSome_some, Option.isSome_none, zbk, zbl, zbm, zbn, zbo, zbp, zbq, zbr, zbs, zbt, zbu, zbv, zbw, zbx, zby, zbz, zca, zcb, zcc, zcd, zce, zcf, zcg, zch, zci, zcj, zck, zcl, zcm, zcn, zco, zcp, zcq, zcr, zcs, zct, zcu, zcv, zcw, zcx, zcy, zcz, zda, zdb, zdc, zdd, zde, zdf, Option.getD_some, Option.getD_none, zet, zeu, zev, zew, zex, zey, zez, zfa, Option.map_some, Option.map_none, Option.bind_some, List.map_cons, List.map_nil, List.cons_append, List.nil_append, ↓reduceIte, Nat.reduceEqDiff, Nat.reduceAdd, decide_true, decide_false, Bool.true_eq_false, Bool.false_eq_true, env0, List.getElem?_cons_zero, List.getElem?_cons_succ, zdg, zdh, zdi, zdj, zdk, zdl, zdm, zdn, ia22, ld31, zdo, zdp, zdq, zdr, zds, zdt, zdu, zdv, zdw, zdx, zdy, zdz, zea, zeb, zec, fa_0, fa_1, zed, bd_0, bd_2, zee, fd_1, zef, Nat.zero_add, zeg, List.toList_toArray, len9, ix9, zeh, zei, zej, zek, zel, e0, e2, e4, e5, e6, j2, t7, q1, q2, q3, and_self, Int.toNat_natCast, hcc, q4]
            exact finish_ct _ _ 2 2 1 _ _ _ _ _ _ _ (by simp only [zfa, ↓reduceIte, Nat.reduceEqDiff, e2]) (by simp only [zfa, ↓reduceIte, Nat.reduceEqDiff]) (by simp only [zfa, ↓reduceIte, Nat.reduceEqDiff]) rfl
          · have q4 : ¬ (c : Int) < 48 := by omega
            by_cases h57 : c ≤ 57
            · have q5 : ¬ (c : Int) > 57 := by omega
              have hall2 : (ds.take (i - off + 1)).all isDg = true := by
                rw [List.take_add_one, List.getElem?_eq_getElem hji, Option.toList_some, List.all_append, hta, Bool.true_and, List.all_cons, List.all_nil, Bool.and_true]
                have : ds[i - off] = ds.getD (i - off) 0 := by rw [List.getD_eq_getElem?_getD, List.getElem?_eq_getElem hji]; rfl
                rw [this, ← hci, isDg, hcc, decide_eq_true (by omega), decide_eq_true h57]; rfl
              have hv := valD_take ds (i - off) hji
              rw [← hci, hcc] at hv
              have hvB := val_B hta (by rw [List.length_take]; omega)
              have h201 : valD (ds.take (i - off)) * 10 < 10 ^ 201 := by rw [show (201 : Nat) = 200 + 1 from rfl, Nat.pow_succ]; omega
              have b1 := u8_sub48 Tryd.prog 5 c (by omega) (by omega)
              have b2 := fun s => conv5_31 s (c - 48) (by omega)
              have c3 := rqMul n (d + 3) hn hw num_10 ht rfl
              have c4 := rqAdd n (d + 3) hn (num_F (valD (ds.take (i - off)) * 10) 21 (by decide) (Nat.lt_trans h201 ten200)) (num_1 (c - 48) (by omega)) (tree_F _) rfl
              rw [← hv] at c4
              simp only [zaa, zab, zac, zad, zae, zaf, zag, zah, zai, zaj, zak, zal, zam, zan, zao, zap, zaq, zar, zas, zat, zau, zav, zaw, zax, zay, zaz, zba, zbb, zbc, zbd, zbe, zbf, zbg, zbh, zbi, zbj, Nat.reduceBEq, Bool.or_self, Bool.or_false, Bool.or_true, Bool.and_true, Bool.and_false, Bool.true_and, Bool.false_and, Option.isNone_none, Option.isNone_some, Option.isSome_some, Option.isSome_none, zbk, zbl, zbm, zbn, zbo, zbp, zbq, zbr, zbs, zbt, zbu, zbv, zbw, zbx, zby, zbz, zca, zcb, zcc, zcd, zce, zcf, zcg, zch, zci, zcj, zck, zcl, zcm, zcn, zco, zcp, zcq, zcr, zcs, zct, zcu, zcv, zcw, zcx, zcy, zcz, zda, zdb, zdc, zdd, zde, zdf, Option.getD_some, Option.getD_none, zet, zeu, zev, zew, zex, zey, zez, zfa, Option.map_some, Option.map_none, Option.bind_some, List.map_cons, List.map_nil, List.cons_append, List.nil_append, ↓reduceIte, Nat.reduceEqDiff, Nat.reduceAdd, decide_true, decide_false, Bool.true_eq_false, Bool.false_eq_true, env0, List.getElem?_cons_zero, List.getElem?_cons_succ, zdg, zdh, zdi, zdj, zdk, zdl, zdm, zdn, ia22, ld31, zdo, zdp, zdq, zdr, zds, zdt, zdu, zdv, zdw, zdx, zdy, zdz, zea, zeb, zec, fa_0, fa_1, zed, bd_0, bd_2, zee, fd_1, zef, Nat.zero_add, zeg, List.toList_toArray, len9, ix9, zeh, zei, zej, zek, zel, e0, e2, e4, e5, e6, j2, t7, q1, q2, q3, and_self, Int.toNat_natCast, hcc, q4, q5, opA_one, one22_int, c3, b1, b2, c4, a1]
              refine ih (i + 1, encF (valD (ds.take (i - off + 1)))) _ _ (by simp only; omega) rfl ⟨?_, ?_, ?_, ?_, ?_, j2, t7, by simp only; omega, ?_, tree_F _, ?_⟩
              · simp only [zfa, ↓reduceIte, Nat.reduceEqDiff, e0]
              · simp only [zfa, ↓reduceIte, Nat.reduceEqDiff, e2]
              · simp only [zfa, ↓reduceIte, Nat.reduceEqDiff, e4]
              · simp only [zfa, ↓reduceIte, Nat.reduceEqDiff]
              · simp only [zfa, ↓reduceIte, Nat.reduceEqDiff]; rfl
              · rw [show i + 1 - off = i - off + 1 by omega]
                exact num_F _ 21 (by decide) (Nat.lt_trans (val_B hall2 (by rw [List.length_take]; omega)) (Nat.lt_trans (Nat.pow_lt_pow_right (by decide) (by decide)) ten200))
              · rw [show i + 1 - off = i - off + 1 by omega]; exact hall2
            · have q5 : (c : Int) > 57 := by omega
              have hna := hnd (by omega)
              rw [hnone hna, hg, if_neg (fun h => hna h.1), ← tupF_0]
              simp only [zaa, zab, zac, zad, zae, zaf, zag, zah, zai, zaj, zak, zal, zam, zan, zao, zap, zaq, zar, zas, zat, zau, zav, zaw, zax, zay, zaz, zba, zbb, zbc, zbd, zbe, zbf, zbg, zbh, zbi, zbj, Nat.reduceBEq, Bool.or_self, Bool.or_false, Bool.or_true, Bool.and_true, Bool.and_false, Bool.true_and, Bool.false_and, Option.isNone_none, Option.isNone_some, Option.isSome_some, Option.isSome_none, zbk, zbl, zbm, zbn, zbo, zbp, zbq, zbr, zbs, zbt, zbu, zbv, zbw, zbx, zby, zbz, zca, zcb, zcc, zcd, zce, zcf, zcg, zch, zci, zcj, zck, zcl, zcm, zcn, zco, zcp, zcq, zcr, zcs, zct, zcu, zcv, zcw, zcx, zcy, zcz, zda, zdb, zdc, zdd, zde, zdf, Option.getD_some, Option.getD_none, zet, zeu, zev, zew, zex, zey, zez, zfa, Option.map_some, Option.map_none, Option.bind_some, List.map_cons, List.map_nil, List.cons_append, List.nil_append, ↓reduceIte, Nat.reduceEqDiff, Nat.reduceAdd, decide_true, decide_false, Bool.true_eq_false, Bool.false_eq_true, env0, List.getElem?_cons_zero, List.getElem?_cons_succ, zdg, zdh, zdi, zdj, zdk, zdl, zdm, zdn, ia22, ld31, zdo, zdp, zdq, zdr, zds, zdt, zdu, zdv, zdw, zdx, zdy, zdz, zea, zeb, zec, fa_0, fa_1, zed, bd_0, bd_2, zee, fd_1, zef, Nat.zero_add, zeg, List.toList_toArray, len9, ix9, zeh, zei, zej, zek, zel, e0, e2, e4, e5, e6, j2, t7, q1, q2, q3, and_self, Int.toNat_natCast, hcc, q4, q5]
              exact finish_ct _ _ 2 2 1 _ _ _ _ _ _ _ (by simp only [zfa, ↓reduceIte, Nat.reduceEqDiff, e2]) (by simp only [zfa, ↓reduceIte, Nat.reduceEqDiff]) (by simp only [zfa, ↓reduceIte, Nat.reduceEqDiff]) rfl
      · have q2 : ((i : Int) == 0) = false := by rw [beq_eq_false_iff_ne]; omega
        have hoff1 : off ≤ 1 := by rw [hoff]; split <;> omega
        have hge : off ≤ i := by first | omega | (rw [hoff, if_neg (by decide)]; exact Nat.zero_le _)
        have hji : i - off < ds.length := by omega
        have q3 : (0 : Int) ≤ (i : Int) ∧ (i : Int) < (s0.length : Int) := by omega
        have hci := hcat i hge
        generalize hcc : (s0.getD i 0).toNat = c at *
        have hc256 : c < 256 := by rw [← hcc]; exact UInt8.toNat_lt _
        have hnd : ¬ (48 ≤ c ∧ c ≤ 57) → ¬ ds.all isDg = true := fun h ha' => by
          have := dg_at ha' (i - off) hji
          rw [← hci, hcc] at this
          exact h this
        have a1 := i_add Tryd.prog 3 (i : Int) 1 (by omega) (by omega)
        by_cases h48 : c < 48
        · have q4 : (c : Int) < 48 := by omega
          have hna := hnd (by omega)
          rw [hnone hna, hg, if_neg (fun h => hna h.1), ← tupF_0]
          simp only [zaa, zab, zac, zad, zae, zaf, zag, zah, zai, zaj, zak, zal, zam, zan, zao, zap, zaq, zar, zas, zat, zau, zav, zaw, zax, zay, zaz, zba, zbb, zbc, zbd, zbe, zbf, zbg, zbh, zbi, zbj, Nat.reduceBEq, Bool.or_self, Bool.or_false, Bool.or_true, Bool.and_true, Bool.and_false, Bool.true_and, Bool.false_and, Option.isNone_none, Option.isNone_some, Option.isSome_some, Option.isSome_none, zbk, zbl, zbm, zbn, zbo, zbp, zbq, zbr, zbs, zbt, zbu, zbv, zbw, zbx, zby, zbz, zca, zcb, zcc, zcd, zce, zcf, zcg, zch, zci, zcj, zck, zcl, zcm, zcn, zco, zcp, zcq, zcr, zcs, zct, zcu, zcv, zcw, zcx, zcy, zcz, zda, zdb, zdc, zdd, zde, zdf, Option.getD_some, Option.getD_none, zet, zeu, zev, zew, zex, zey, zez, zfa, Option.map_some, Option.map_none, Option.bind_some, List.map_cons, List.map_nil, List.cons_append, List.nil_append, ↓reduceIte, Nat.reduceEqDiff, Nat.reduceAdd, decide_true, decide_false, Bool.true_eq_false, Bool.false_eq_true, env0, List.getElem?_cons_zero, List.getElem?_cons_succ, zdg, zdh, zdi, zdj, zdk, zdl, zdm, zdn, ia22, ld31, zdo, zdp, zdq, zdr, zds, zdt, zdu, zdv, zdw, zdx, zdy, zdz, zea, zeb, zec, fa_0, fa_1, zed, bd_0, bd_2, zee, fd_1, zef, Nat.zero_add, zeg, List.toList_toArray, len9, ix9, zeh, zei, zej, zek, zel, e0, e2, e4, e5, e6, j2, t7, q1, q2, q3, and_self, Int.toNat_natCast, hcc, q4]
          exact finish_ct _ _ 2 2 1 _ _ _ _ _ _ _ (by simp only [zfa, ↓reduceIte, Nat.reduceEqDiff, e2]) (by simp only [zfa, ↓reduceIte, Nat.reduceEqDiff]) (by simp only [zfa, ↓reduceIte, Nat.reduceEqDiff]) rfl
        · have q4 : ¬ (c : Int) < 48 := by omega
          by_cases h57 : c ≤ 57
          · have q5 : ¬ (c : Int) > 57 := by omega
            have hall2 : (ds.take (i - off + 1)).all isDg = true := by
              rw [List.take_add_one, List.getElem?_eq_getElem hji, Option.toList_some, List.all_append, hta, Bool.true_and, List.all_cons, List.all_nil, Bool.and_true]
              have : ds[i - off] = ds.getD (i - off) 0 := by rw [List.getD_eq_getElem?_getD, List.getElem?_eq_getElem hji]; rfl
              rw [this, ← hci, isDg, hcc, decide_eq_true (by omega), decide_eq_true h57]; rfl
            have hv := valD_take ds (i - off) hji
            rw [← hci, hcc] at hv
            have hvB := val_B hta (by rw [List.length_take]; omega)
            have h201 : valD (ds.take (i - off)) * 10 < 10 ^ 201 := by rw [show (201 : Nat) = 200 + 1 from rfl, Nat.pow_succ]; omega
            have b1 := u8_sub48 Tryd.prog 5 c (by omega) (by omega)
            have b2 := fun s => conv5_31 s (c - 48) (by omega)
            have c3 := rqMul n (d + 3) hn hw num_10 ht rfl
            have c4 := rqAdd n (d + 3) hn (num_F (valD (ds.take (i - off)) * 10) 21 (by decide) (Nat.lt_trans h201 ten200)) (num_1 (c - 48) (by omega)) (tree_F _) rfl
            rw [← hv] at c4
            simp only [zaa, zab, zac, zad, zae, zaf, zag, zah, zai, zaj, zak, zal, zam, zan, zao, zap, zaq, zar, zas, zat, zau, zav, zaw, zax, zay, zaz, zba, zbb, zbc, zbd, zbe, zbf, zbg, zbh, zbi, zbj, Nat.reduceBEq, Bool.or_self, Bool.or_false, Bool.or_true, Bool.and_true, Bool.and_false, Bool.true_and, Bool.false_and, Option.isNone_none, Option.isNone_some, Option.isSome_some, Option.isSome_none, zbk, zbl, zbm, zbn, zbo, zbp, zbq, zbr, zbs, zbt, zbu, zbv, zbw, zbx, zby, zbz, zca, zcb, zcc, zcd, zce, zcf, zcg, zch, zci, zcj, zck, zcl, zcm, zcn, zco, zcp, zcq, zcr, zcs, zct, zcu, zcv, zcw, zcx, zcy, zcz, zda, zdb, zdc, zdd, zde, zdf, Option.getD_some, Option.getD_none, zet, zeu, zev, zew, zex, zey, zez, zfa, Option.map_some, Option.map_none, Option.bind_some, List.map_cons, List.map_nil, List.cons_append, List.nil_append, ↓reduceIte, Nat.reduceEqDiff, Nat.reduceAdd, decide_true, decide_false, Bool.true_eq_false, Bool.false_eq_true, env0, List.getElem?_cons_zero, List.getElem?_cons_succ, zdg, zdh, zdi, zdj, zdk, zdl, zdm, zdn, ia22, ld31, zdo, zdp, zdq, zdr, zds, zdt, zdu, zdv, zdw, zdx, zdy, zdz, zea, zeb, zec, fa_0, fa_1, zed, bd_0, bd_2, zee, fd_1, zef, Nat.zero_add, zeg, List.toList_toArray, len9, ix9, zeh, zei, zej, zek, zel, e0, e2, e4, e5, e6, j2, t7, q1, q2, q3, and_self, Int.toNat_natCast, hcc, q4, q5, opA_one, one22_int, c3, b1, b2, c4, a1]
            refine ih (i + 1, encF (valD (ds.take (i - off + 1)))) _ _ (by simp only; omega) rfl ⟨?_, ?_, ?_, ?_, ?_, j2, t7, by simp only; omega, ?_, tree_F _, ?_⟩
            · simp only [zfa, ↓reduceIte, Nat.reduceEqDiff, e0]
            · simp only [zfa, ↓reduceIte, Nat.reduceEqDiff, e2]
            · simp only [zfa, ↓reduceIte, Nat.reduceEqDiff, e4]
            · simp only [zfa, ↓reduceIte, Nat.reduceEqDiff]
            · simp only [zfa, ↓reduceIte, Nat.reduceEqDiff]; rfl
            · rw [show i + 1 - off = i - off + 1 by omega]
              exact num_F _ 21 (by decide) (Nat.lt_trans (val_B hall2 (by rw [List.length_take]; omega)) (Nat.lt_trans (Nat.pow_lt_pow_right (by decide) (by decide)) ten200))
            · rw [show i + 1 - off = i - off + 1 by omega]; exact hall2
          · have q5 : (c : Int) > 57 := by omega
            have hna := hnd (by omega)
            rw [hnone hna, hg, if_neg (fun h => hna h.1), ← tupF_0]
            simp only [zaa, zab, zac, zad, zae, zaf, zag, zah, zai, zaj, zak, zal, zam, zan, zao, zap, zaq, zar, zas, zat, zau, zav, zaw, zax, zay, zaz, zba, zbb, zbc, zbd, zbe, zbf, zbg, zbh, zbi, zbj, Nat.reduceBEq, Bool.or_self, Bool.or_false, Bool.or_true, Bool.and_true, Bool.and_false, Bool.true_and, Bool.false_and, Option.isNone_none, Option.isNone_some, Option.isSome_some, Option.isSome_none, zbk, zbl, zbm, zbn, zbo, zbp, zbq, zbr, zbs, zbt, zbu, zbv, zbw, zbx, zby, zbz, zca, zcb, zcc, zcd, zce, zcf, zcg, zch, zci, zcj, zck, zcl, zcm, zcn, zco, zcp, zcq, zcr, zcs, zct, zcu, zcv, zcw, zcx, zcy, zcz, zda, zdb, zdc, zdd, zde, zdf, Option.getD_some, Option.getD_none, zet, zeu, zev, zew, zex, zey, zez, zfa, Option.map_some, Option.map_none, Option.bind_some, List.map_cons, List.map_nil, List.cons_append, List.nil_append, ↓reduceIte, Nat.reduceEqDiff, Nat.reduceAdd, decide_true, decide_false, Bool.true_eq_false, Bool.false_eq_true, env0, List.getElem?_cons_zero, List.getElem?_cons_succ, zdg, zdh, zdi, zdj, zdk, zdl, zdm, zdn, ia22, ld31, zdo, zdp, zdq, zdr, zds, zdt, zdu, zdv, zdw, zdx, zdy, zdz, zea, zeb, zec, fa_0, fa_1, zed, bd_0, bd_2, zee, fd_1, zef, Nat.zero_add, zeg, List.toList_toArray, len9, ix9, zeh, zei, zej, zek, zel, e0, e2, e4, e5, e6, j2, t7, q1, q2, q3, and_self, Int.toNat_natCast, hcc, q4, q5]
            exact finish_ct _ _ 2 2 1 _ _ _ _ _ _ _ (by simp only [zfa, ↓reduceIte, Nat.reduceEqDiff, e2]) (by simp only [zfa, ↓reduceIte, Nat.reduceEqDiff]) (by simp only [zfa, ↓reduceIte, Nat.reduceEqDiff]) rfl
  · have hn0 := hpos.2 hp0
    subst hn0
    simp only [zaa, zab, zac, zad, zae, zaf, zag, zah, zai, zaj, zak, zal, zam, zan, zao, zap, zaq, zar, zas, zat, zau, zav, zaw, zax, zay, zaz, zba, zbb, zbc, zbd, zbe, zbf, zbg, zbh, zbi, zbj, Nat.reduceBEq, Bool.or_self, Bool.or_false, Bool.or_true, Bool.and_true, Bool.and_false, Bool.true_and, Bool.false_and, Option.isNone_none, Option.isNone_some, Option.isSome_some, Option.isSome_none, zbk, zbl, zbm, zbn, zbo, zbp, zbq, zbr, zbs, zbt, zbu, zbv, zbw, zbx, zby, zbz, zca, zcb, zcc, zcd, zce, zcf, zcg, zch, zci, zcj, zck, zcl, zcm, zcn, zco, zcp, zcq, zcr, zcs, zct, zcu, zcv, zcw, zcx, zcy, zcz, zda, zdb, zdc, zdd, zde, zdf, Option.getD_some, Option.getD_none, zet, zeu, zev, zew, zex, zey, zez, zfa, Option.map_some, Option.map_none, Option.bind_some, List.map_cons, List.map_nil, List.cons_append, List.nil_append, ↓reduceIte, Nat.reduceEqDiff, Nat.reduceAdd, decide_true, decide_false, Bool.true_eq_false, Bool.false_eq_true, env0, List.getElem?_cons_zero, List.getElem?_cons_succ, zdg, zdh, zdi, zdj, zdk, zdl, zdm, zdn, ia22, ld31, zdo, zdp, zdq, zdr, zds, zdt, zdu, zdv, zdw, zdx, zdy, zdz, zea, zeb, zec, fa_0, fa_1, zed, bd_0, bd_2, zee, fd_1, zef, Nat.zero_add, zeg, List.toList_toArray, len9, ix9, zeh, zei, zej, zek, zel, st0_1, hl, hp0, den_loop]
    refine loop_ends (X := Nat × AV) (fun x env s => env 0 = .str s0 ∧ env 2 = .ptr 2 1 0 ∧ env 4 = .bool false ∧ env 5 = x.2 ∧ env 6 = .int .i64 (x.1 : Int) ∧ s 2 = ⟨1, .buf [.bool false, .sl [] 0 .nil]⟩ ∧ (s 7).t = 0 ∧ x.1 ≤ s0.length ∧ Num x.2 (valD (ds.take (x.1 - off))) ∧ isTree x.2 = true ∧ (ds.take (x.1 - off)).all isDg = true) (fun x => s0.length - x.1) (fun _ => (.tree (tupF g (parseR s0)), [[]])) ?_ n (0, .sl [] 0 .nil) _ _ (by simp only; omega) ⟨by first | (simp only [zfa, ↓reduceIte, Nat.reduceEqDiff]; done) | (simp only [zfa, ↓reduceIte, Nat.reduceEqDiff]; rfl), by first | (simp only [zfa, ↓reduceIte, Nat.reduceEqDiff]; done) | (simp only [zfa, ↓reduceIte, Nat.reduceEqDiff]; rfl), by first | (simp only [zfa, ↓reduceIte, Nat.reduceEqDiff]; done) | (simp only [zfa, ↓reduceIte, Nat.reduceEqDiff]; rfl), by first | (simp only [zfa, ↓reduceIte, Nat.reduceEqDiff]; done) | (simp only [zfa, ↓reduceIte, Nat.reduceEqDiff]; rfl), by first | (simp only [zfa, ↓reduceIte, Nat.reduceEqDiff]; done) | (simp only [zfa, ↓reduceIte, Nat.reduceEqDiff]; rfl), by first | (simp only [zfa, ↓reduceIte, Nat.reduceEqDiff]; done) | (simp only [zfa, ↓reduceIte, Nat.reduceEqDiff]; rfl), by simp only [zfa, ↓reduceIte, Nat.reduceEqDiff, zdw], Nat.zero_le _, by rw [Nat.zero_sub, List.take_zero]; exact num_nil, rfl, by rw [Nat.zero_sub, List.take_zero]; rfl⟩
    clear hpos
    intro k ⟨i, w⟩ hxk ih env s ⟨e0, e2, e4, e5, e6, j2, t7, hi, hw, ht, hta⟩
    simp only at e5 e6 hi hw ht hta hxk
    by_cases hend : i = s0.length
    · subst hend
      clear ih
      have q1 : ¬ (s0.length : Int) < (s0.length : Int) := by omega
      rw [show s0.length - off = ds.length by omega, List.take_length] at hw hta
      have hpr := hall hta
      have c5 := fun D s => cRmade n (d + 3) hn D s hw false
      rw [madeF] at c5
      have hfit := mkZ_lt (sgn false (valD ds))
      have hgm : (mkZ (sgn false (valD ds))).2 = true → gm (sgn false (valD ds)) = .l := fun h => by
        unfold mkZ at h
        unfold gm
        split at h
        · rename_i hh; rw [if_pos hh]
        · cases h
      generalize hmk : mkZ (sgn false (valD ds)) = mk at *
      obtain ⟨r, ok⟩ := mk
      simp only at c5 hfit hpr hgm
      cases ok with
      | false =>
        simp only [Bool.false_and, Bool.false_eq_true, if_false] at hpr
        rw [hg, hpr, if_neg (fun h => by cases h.2), ← tupF_0]
        simp only [zaa, zab, zac, zad, zae, zaf, zag, zah, zai, zaj, zak, zal, zam, zan, zao, zap, zaq, zar, zas, zat, zau, zav, zaw, zax, zay, zaz, zba, zbb, zbc, zbd, zbe, zbf, zbg, zbh, zbi, zbj, Nat.reduceBEq, Bool.or_self, Bool.or_false, Bool.or_true, Bool.and_true, Bool.and_false, Bool.true_and, Bool.false_and, Option.isNone_none, Option.isNone_some, Option.isSome_some, Option.isSome_none, zbk, zbl, zbm, zbn, zbo, zbp, zbq, zbr, zbs, zbt, zbu, zbv, zbw, zbx, zby, zbz, zca, zcb, zcc, zcd, zce, zcf, zcg, zch, zci, zcj, zck, zcl, zcm, zcn, zco, zcp, zcq, zcr, zcs, zct, zcu, zcv, zcw, zcx, zcy, zcz, zda, zdb, zdc, zdd, zde, zdf, Option.getD_some, Option.getD_none, zet, zeu, zev, zew, zex, zey, zez, zfa, Option.map_some, Option.map_none, Option.bind_some, List.map_cons, List.map_nil, List.cons_append, List.nil_append, ↓reduceIte, Nat.reduceEqDiff, Nat.reduceAdd, decide_true, decide_false, Bool.true_eq_false, Bool.false_eq_true, env0, List.getElem?_cons_zero, List.getElem?_cons_succ, zdg, zdh, zdi, zdj, zdk, zdl, zdm, zdn, ia22, ld31, zdo, zdp, zdq, zdr, zds, zdt, zdu, zdv, zdw, zdx, zdy, zdz, zea, zeb, zec, fa_0, fa_1, zed, bd_0, bd_2, zee, fd_1, zef, Nat.zero_add, zeg, List.toList_toArray, len9, ix9, zeh, zei, zej, zek, zel, e0, e2, e4, e5, e6, j2, t7, q1, c5, ext_0, ext_1, zeb, unA_not', Bool.not_false]
        exact finish_ct _ _ 2 2 1 _ _ _ _ _ _ _ (by simp only [zfa, ↓reduceIte, Nat.reduceEqDiff, e2]) (by simp only [zfa, ↓reduceIte, Nat.reduceEqDiff]) (by simp only [zfa, ↓reduceIte, Nat.reduceEqDiff]) rfl
      | true =>
        rw [hgm rfl] at c5
        have c6 := fun D s => callA_trees (cfg := cfg0) (d := D) (s := s) (f := 35) (vs := [canA .l r]) rfl (rtext_eq n d hn (isN_can .l r hfit))
        cases hq : (textZ r == s0) with
        | false =>
          rw [hq] at hpr
          simp only [Bool.and_false, Bool.false_eq_true, if_false] at hpr
          rw [hg, hpr, if_neg (fun h => by cases h.2), ← tupF_0]
          simp only [zaa, zab, zac, zad, zae, zaf, zag, zah, zai, zaj, zak, zal, zam, zan, zao, zap, zaq, zar, zas, zat, zau, zav, zaw, zax, zay, zaz, zba, zbb, zbc, zbd, zbe, zbf, zbg, zbh, zbi, zbj, Nat.reduceBEq, Bool.or_self, Bool.or_false, Bool.or_true, Bool.and_true, Bool.and_false, Bool.true_and, Bool.false_and, Option.isNone_none, Option.isNone_some, Option.isSome_some, Option.isSome_none, zbk, zbl, zbm, zbn, zbo, zbp, zbq, zbr, zbs, zbt, zbu, zbv, zbw, zbx, zby, zbz, zca, zcb, zcc, zcd, zce, zcf, zcg, zch, zci, zcj, zck, zcl, zcm, zcn, zco, zcp, zcq, zcr, zcs, zct, zcu, zcv, zcw, zcx, zcy, zcz, zda, zdb, zdc, zdd, zde, zdf, Option.getD_some, Option.getD_none, zet, zeu, zev, zew, zex, zey, zez, zfa, Option.map_some, Option.map_none, Option.bind_some, List.map_cons, List.map_nil, List.cons_append, List.nil_append, ↓reduceIte, Nat.reduceEqDiff, Nat.reduceAdd, decide_true, decide_false, Bool.true_eq_false, Bool.false_eq_true, env0, List.getElem?_cons_zero, List.getElem?_cons_succ, zdg, zdh, zdi, zdj, zdk, zdl, zdm, zdn, ia22, ld31, zdo, zdp, zdq, zdr, zds, zdt, zdu, zdv, zdw, zdx, zdy, zdz, zea, zeb, zec, fa_0, fa_1, zed, bd_0, bd_2, zee, fd_1, zef, Nat.zero_add, zeg, List.toList_toArray, len9, ix9, zeh, zei, zej, zek, zel, e0, e2, e4, e5, e6, j2, t7, q1, c5, ext_0, ext_1, zeb, unA_not', Bool.not_true, c6, hq, Bool.not_false]
          exact finish_ct _ _ 2 2 1 _ _ _ _ _ _ _ (by simp only [zfa, ↓reduceIte, Nat.reduceEqDiff, e2]) (by simp only [zfa, ↓reduceIte, Nat.reduceEqDiff]) (by simp only [zfa, ↓reduceIte, Nat.reduceEqDiff]) rfl
        | true =>
          rw [hq] at hpr
          simp only [Bool.and_self, if_true] at hpr
          rw [hg, hpr, if_pos ⟨hta, rfl⟩, tupF]
          simp only [zaa, zab, zac, zad, zae, zaf, zag, zah, zai, zaj, zak, zal, zam, zan, zao, zap, zaq, zar, zas, zat, zau, zav, zaw, zax, zay, zaz, zba, zbb, zbc, zbd, zbe, zbf, zbg, zbh, zbi, zbj, Nat.reduceBEq, Bool.or_self, Bool.or_false, Bool.or_true, Bool.and_true, Bool.and_false, Bool.true_and, Bool.false_and, Option.isNone_none, Option.isNone_some, Option.isSome_some, Option.isSome_none, zbk, zbl, zbm, zbn, zbo, zbp, zbq, zbr, zbs, zbt, zbu, zbv, zbw, zbx, zby, zbz, zca, zcb, zcc, zcd, zce, zcf, zcg, zch, zci, zcj, zck, zcl, zcm, zcn, zco, zcp, zcq, zcr, zcs, zct, zcu, zcv, zcw, zcx, zcy, zcz, zda, zdb, zdc, zdd, zde, zdf, Option.getD_some, Option.getD_none, zet, zeu, zev, zew, zex, zey, zez, zfa, Option.map_some, Option.map_none, Option.bind_some, List.map_cons, List.map_nil, List.cons_append, List.nil_append, ↓reduceIte, Nat.reduceEqDiff, Nat.reduceAdd, decide_true, decide_false, Bool.true_eq_false, Bool.false_eq_true, env0, List.getElem?_cons_zero, List.getElem?_cons_succ, zdg, zdh, zdi, zdj, zdk, zdl, zdm, zdn, ia22, ld31, zdo, zdp, zdq, zdr, zds, zdt, zdu, zdv, zdw, zdx, zdy, zdz, zea, zeb, zec, fa_0, fa_1, zed, bd_0, bd_2, zee, fd_1, zef, Nat.zero_add, zeg, List.toList_toArray, len9, ix9, zeh, zei, zej, zek, zel, e0, e2, e4, e5, e6, j2, t7, q1, c5, ext_0, ext_1, zeb, unA_not', Bool.not_true, c6, hq]
          exact finish_ct _ _ 2 2 1 _ _ _ _ _ _ _ (by simp only [zfa, ↓reduceIte, Nat.reduceEqDiff, e2]) (by simp only [zfa, ↓reduceIte, Nat.reduceEqDiff]) (by simp only [zfa, ↓reduceIte, Nat.reduceEqDiff]) rfl
    · exact absurd (by omega) hend
end Go.Ab
