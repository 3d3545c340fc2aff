/- Several texts put together: AbbB4, AbbB5, AbbT25, AbbB6, AbbD1, AbbD2, AbbD3, AbbJ1, AbbJ2, AbbC1, AbbC2, AbbJ3, AbbJ5, AbbJ6, AbbJ7, AbbJ8, AbbC3, AbbC4, AbbJ9, AbbJ10, AbbJ11, AbbJ12. Conditions: as each part says. -/
import Derived.Test.YtpgnjcckmmkmkaaDoorAbBTuplesZ05
import Derived.Test.YtpgnjcckmmkmkaaDoorAbBTuplesZ03
/- relictref03.List, relictlaw00.Proper; rows of ints that grow. Conditions: lengths in range. -/
namespace Go.Ab
open Go.Proofs
set_option maxRecDepth 100000
set_option linter.unusedSimpArgs false

def duo26 (x y : AV) : Option AV := (fillA (fun i => some (i * 6, 6)) (rep 2 [.int .i64 0, .bool false, .sl [] 0 .nil, .str [], .int .i64 0, .sl [] 0 .nil]) [(0, x), (1, y)]).map (.sl · 2 .tight)
theorem duo26_agg (a b c d e f a' b' c' d' e' f' : AV) : duo26 (.agg [a, b, c, d, e, f]) (.agg [a', b', c', d', e', f']) = some (.sl [a, b, c, d, e, f, a', b', c', d', e', f'] 2 .tight) := rfl
theorem opA_duo26 (call : FuncId → List Arg → Option Out) (q : Bool) (d : Option Tmp) (ty : TypeId) (pos : String) (af : Array Edge) (g : Option (Nat × Bool)) (t : Nat) (env : Env) (s : St) (x y : Operand) :
    opA Tryd.prog cfg0 call q ⟨d, .buildSlice 22 2 #[(0, x), (1, y)], ty, pos, af, g⟩ t env s = (duo26 (ev env x) (ev env y)).map (·, s) := by
  rw [opA_bs]
  simp only [tkTk, eszT, zeroT, Option.bind_some, List.map_cons, List.map_nil]
  rfl
theorem duo26_T (a b : T) : duo26 (.agg (cellsT a)) (.agg (cellsT b)) = some (.sl (cellsK [a, b]) 2 .tight) := by
  obtain ⟨k, b1, lg, l, s, m, kg, ks⟩ := a
  obtain ⟨k', b2, lg', l', s', m', kg', ks'⟩ := b
  simp only [cellsT, cellsK, List.append_nil, List.cons_append, List.nil_append]
  exact duo26_agg _ _ _ _ _ _ _ _ _ _ _ _
theorem bdT_cons (a b : T) : buildA Tryd.prog 29 [(0, .int .i64 4), (4, .sl (cellsK [a, b]) 2 .tight)] = some (.agg (cellsT (consT a b))) := bdT_4 4 _ _ .t
set_option maxHeartbeats 4000000 in
theorem rList_eq (n d : Nat) (ks : List T) (g : Grip) (t : T) (hn : ks.length < n) (hl : ks.length ≤ 1000000) : evalFn Tryd.prog cfg0 n (d+1) 8 [.tree (.sl (cellsK ks) ks.length g), .tree (encT t)] = some (.tree (encT (listT ks t)), [[], []]) := by
  rw [evalFn_go _ Tryd.func8 (by unfold Tryd.f8; rfl) (by unfold Tryd.f8; decide) (Nat.le_of_ble_eq_true (by unfold Tryd.f8; rfl)) (by kernel_rfl)]
  have f0 := i_sub Tryd.prog 3 (ks.length : Int) 1 (by omega) (by omega)
  simp only [zaa, zab, zac, zad, zae, zaf, zag, zah, zai, zaj, zak, zal, zam, zan, zao, zap, zaq, zar, zas, zat, zau, zav, zaw, zax, zay, zaz, zba, zbb, zbc, zbd, zbe, zbf, zbg, zbh, zbi, zbj, zbk, zbl, zbm, zbn, zbo, zbp, zbq, Nat.reduceBEq, Bool.or_self, Bool.or_false, Bool.or_true, Bool.and_true, Bool.and_false, Bool.true_and, Bool.false_and, Option.isNone_none, Option.isNone_some, Option.isSome_some, Option.isSome_none, zbr, zbs, zbt, zbu, zbv, zbw, zbx, zby, zbz, zca, zcb, zcc, zcd, zce, zcf, zcg, zch, zci, zcj, zck, zcl, zcm, zcn, zco, zcp, zcq, zcr, own0, zcs, zct, zcu, zcv, zcw, zcx, zcy, zcz, zda, zdb, zdc, zdd, zde, zdf, zdg, zdh, zdi, zdj, zdk, zdl, zdm, zdn, zdo, zdp, zdq, zdr, zds, zdt, zdu, Option.getD_some, Option.getD_none, zfb, zfc, zfd, zfe, zff, zfg, zfh, zfi, Option.map_some, Option.map_none, Option.bind_some, List.map_cons, List.map_nil, List.cons_append, List.nil_append, ↓reduceIte, Nat.reduceEqDiff, Nat.reduceAdd, decide_true, decide_false, Bool.true_eq_false, Bool.false_eq_true, env0, List.getElem?_cons_zero, List.getElem?_cons_succ, zdv, zdw, zdx, zdy, zdz, zea, zeb, zec, ia22, ld31, zed, zee, zef, zeg, zeh, zei, zej, zek, zel, zem, zen, zeo, zep, zeq, zer, fa_0, fa_1, zes, bd_0, bd_2, zet, fd_1, zeu, Nat.zero_add, zeroT, encT, ldT_u, st_Tt, stT_6, lenTk, f0, den_loop]
  refine loop_ends (X := Nat) (fun j env s => env 0 = .sl (cellsK ks) ks.length g ∧ env 4 = .ptr 4 1 0 ∧ env 5 = .ptr 5 1 0 ∧ env 6 = .int .i64 ((j : Int) - 1) ∧ s 4 = ⟨1, .buf [.int .i64 0, .bool false, .sl [] 0 .nil, .str [], .int .i64 0, .sl [] 0 .nil]⟩ ∧ s 5 = ⟨1, .buf (cellsT (listT (ks.drop j) t))⟩ ∧ j ≤ ks.length) (fun j => j) (fun _ => (.tree (encT (listT ks t)), [[], []])) ?_ n ks.length _ _ (by omega) ⟨(by first | (simp only [zfi, ↓reduceIte, Nat.reduceEqDiff, env0, List.getElem?_cons_zero]; done) | (simp only [zfi, ↓reduceIte, Nat.reduceEqDiff, env0, List.getElem?_cons_zero]; rfl)), (by first | (simp only [zfi, ↓reduceIte, Nat.reduceEqDiff]; done) | (simp only [zfi, ↓reduceIte, Nat.reduceEqDiff]; rfl)), (by first | (simp only [zfi, ↓reduceIte, Nat.reduceEqDiff]; done) | (simp only [zfi, ↓reduceIte, Nat.reduceEqDiff]; rfl)), (by first | (simp only [zfi, ↓reduceIte, Nat.reduceEqDiff]; done) | (simp only [zfi, ↓reduceIte, Nat.reduceEqDiff]; rfl)), (by first | (simp only [zfi, ↓reduceIte, Nat.reduceEqDiff]; done) | (simp only [zfi, ↓reduceIte, Nat.reduceEqDiff]; rfl)), by rw [List.drop_length]; exact (by first | (simp only [zfi, ↓reduceIte, Nat.reduceEqDiff]; done) | (simp only [zfi, ↓reduceIte, Nat.reduceEqDiff]; rfl)), Nat.le_refl _⟩
  intro rr j hr ih env st ⟨e0, e4, e5, e6, j4, j5, hj⟩
  cases j with
  | zero =>
    have q1 : ¬ (((0 : Nat) : Int) - 1 ≥ 0) := by omega
    rw [List.drop_zero] at j5
    simp only [zaa, zab, zac, zad, zae, zaf, zag, zah, zai, zaj, zak, zal, zam, zan, zao, zap, zaq, zar, zas, zat, zau, zav, zaw, zax, zay, zaz, zba, zbb, zbc, zbd, zbe, zbf, zbg, zbh, zbi, zbj, zbk, zbl, zbm, zbn, zbo, zbp, zbq, Nat.reduceBEq, Bool.or_self, Bool.or_false, Bool.or_true, Bool.and_true, Bool.and_false, Bool.true_and, Bool.false_and, Option.isNone_none, Option.isNone_some, Option.isSome_some, Option.isSome_none, zbr, zbs, zbt, zbu, zbv, zbw, zbx, zby, zbz, zca, zcb, zcc, zcd, zce, zcf, zcg, zch, zci, zcj, zck, zcl, zcm, zcn, zco, zcp, zcq, zcr, own0, zcs, zct, zcu, zcv, zcw, zcx, zcy, zcz, zda, zdb, zdc, zdd, zde, zdf, zdg, zdh, zdi, zdj, zdk, zdl, zdm, zdn, zdo, zdp, zdq, zdr, zds, zdt, zdu, Option.getD_some, Option.getD_none, zfb, zfc, zfd, zfe, zff, zfg, zfh, zfi, Option.map_some, Option.map_none, Option.bind_some, List.map_cons, List.map_nil, List.cons_append, List.nil_append, ↓reduceIte, Nat.reduceEqDiff, Nat.reduceAdd, decide_true, decide_false, Bool.true_eq_false, Bool.false_eq_true, zdv, zdw, zdx, zdy, zdz, zea, zeb, zec, ia22, ld31, zed, zee, zef, zeg, zeh, zei, zej, zek, zel, zem, zen, zeo, zep, zeq, zer, fa_0, fa_1, zes, bd_0, bd_2, zet, fd_1, zeu, Nat.zero_add, e0, e4, e5, e6, j4, j5, q1, ldT_u, st_Tt, stT_6]
    exact finish_cT _ _ _ _ _ (listT ks t) _ _ _ (by first | (simp only [zfi, ↓reduceIte, Nat.reduceEqDiff, e4]; done) | (simp only [zfi, ↓reduceIte, Nat.reduceEqDiff, e4]; rfl)) (by first | (simp only [zfi, ↓reduceIte, Nat.reduceEqDiff]; done) | (simp only [zfi, ↓reduceIte, Nat.reduceEqDiff]; rfl)) rfl
  | succ i =>
    have e6 : env 6 = .int .i64 (i : Int) := by rw [e6]; congr 1; omega
    have q1 : (i : Int) ≥ 0 := by omega
    have hil : i < ks.length := by omega
    have f5 := i_sub Tryd.prog 3 (i : Int) 1 (by omega) (by omega)
    have hd : ks.drop i = ks[i] :: ks.drop (i + 1) := List.drop_eq_getElem_cons hil
    have ia := fun st => ia_K st ks g i hil
    rw [hd] at ia
    have ld := fun st => ld_K st ks[i] (ks.drop (i + 1))
    simp only [encT] at ld
    simp only [zaa, zab, zac, zad, zae, zaf, zag, zah, zai, zaj, zak, zal, zam, zan, zao, zap, zaq, zar, zas, zat, zau, zav, zaw, zax, zay, zaz, zba, zbb, zbc, zbd, zbe, zbf, zbg, zbh, zbi, zbj, zbk, zbl, zbm, zbn, zbo, zbp, zbq, Nat.reduceBEq, Bool.or_self, Bool.or_false, Bool.or_true, Bool.and_true, Bool.and_false, Bool.true_and, Bool.false_and, Option.isNone_none, Option.isNone_some, Option.isSome_some, Option.isSome_none, zbr, zbs, zbt, zbu, zbv, zbw, zbx, zby, zbz, zca, zcb, zcc, zcd, zce, zcf, zcg, zch, zci, zcj, zck, zcl, zcm, zcn, zco, zcp, zcq, zcr, own0, zcs, zct, zcu, zcv, zcw, zcx, zcy, zcz, zda, zdb, zdc, zdd, zde, zdf, zdg, zdh, zdi, zdj, zdk, zdl, zdm, zdn, zdo, zdp, zdq, zdr, zds, zdt, zdu, Option.getD_some, Option.getD_none, zfb, zfc, zfd, zfe, zff, zfg, zfh, zfi, Option.map_some, Option.map_none, Option.bind_some, List.map_cons, List.map_nil, List.cons_append, List.nil_append, ↓reduceIte, Nat.reduceEqDiff, Nat.reduceAdd, decide_true, decide_false, Bool.true_eq_false, Bool.false_eq_true, zdv, zdw, zdx, zdy, zdz, zea, zeb, zec, ia22, ld31, zed, zee, zef, zeg, zeh, zei, zej, zek, zel, zem, zen, zeo, zep, zeq, zer, fa_0, fa_1, zes, bd_0, bd_2, zet, fd_1, zeu, Nat.zero_add, e0, e4, e5, e6, j4, j5, q1, ia, ld, ldT_u, opA_duo26, duo26_T, bdT_cons, st_Tt, stT_u, f5]
    exact ih i _ _ (by omega) rfl ⟨(by first | (simp only [zfi, ↓reduceIte, Nat.reduceEqDiff, e0]; done) | (simp only [zfi, ↓reduceIte, Nat.reduceEqDiff, e0]; rfl)), (by first | (simp only [zfi, ↓reduceIte, Nat.reduceEqDiff, e4]; done) | (simp only [zfi, ↓reduceIte, Nat.reduceEqDiff, e4]; rfl)), (by first | (simp only [zfi, ↓reduceIte, Nat.reduceEqDiff, e5]; done) | (simp only [zfi, ↓reduceIte, Nat.reduceEqDiff, e5]; rfl)), (by first | (simp only [zfi, ↓reduceIte, Nat.reduceEqDiff]; done) | (simp only [zfi, ↓reduceIte, Nat.reduceEqDiff]; rfl)), (by first | (simp only [zfi, ↓reduceIte, Nat.reduceEqDiff, j4]; done) | (simp only [zfi, ↓reduceIte, Nat.reduceEqDiff, j4]; rfl)), by rw [hd]; exact (by first | (simp only [zfi, ↓reduceIte, Nat.reduceEqDiff]; done) | (simp only [zfi, ↓reduceIte, Nat.reduceEqDiff]; rfl)), by omega⟩
/-! ### Rows of ints -/
theorem tkI : tkOf Tryd.prog 40 = .sl 3 := by kernel_rfl
theorem lenInts (s : St) (xs : List AV) (m : Nat) (g : Grip) : lenA Tryd.prog 40 s (.sl xs m g) = some (.int .i64 (m : Int)) := by simp only [lenA, tkI]
theorem iaInts (s : St) (xs : List AV) (m : Nat) (g : Grip) (i : Nat) (h : i < m) : indexAddrA Tryd.prog 40 s (.sl xs m g) (.int .i64 (i : Int)) = some (.rptr (xs.drop i)) := by
  simp only [indexAddrA, tkI, eszTi, Option.bind_some, Int.toNat_natCast, Nat.mul_one]
  rw [if_pos ⟨by omega, by omega⟩]
def ApI (s : St) (d : Nat) (x : AV) (us : List Int) : Prop := (us = [] ∧ x = .sl [] 0 .nil) ∨ (us ≠ [] ∧ ∃ t, x = .sl (intsA us) us.length (.tok d t) ∧ s d = ⟨t, .tok 1⟩)
theorem byI : decide (byOf Tryd.prog 3 ≤ 200) = true := by kernel_rfl
theorem zlI : (zeroOf Tryd.prog 3).map List.length = some 1 := by kernel_rfl
theorem intsA_len (us : List Int) : (intsA us).length = us.length := List.length_map _
theorem ApI.push {s : St} {d : Nat} {x : AV} {us : List Int} (h : ApI s d x us) (hl : us.length ≤ 1000000) (v : Int) :
    ∃ x' s', appendA Tryd.prog #[40, 40] d s x (.sl [.int .i64 v] 1 .tight) = some (x', s') ∧ ApI s' d x' (us ++ [v]) ∧ ∀ q, q ≠ d → s' q = s q := by
  have hb := of_decide_eq_true byI
  have hk : intsA (us ++ [v]) = intsA us ++ [.int .i64 v] := by simp [intsA]
  have hm : ∀ s, moreA Tryd.prog 3 1 (some 40) s (.sl [.int .i64 v] 1 .tight) = some ([.int .i64 v], 1) := fun s => by
    simp only [moreA, Option.map_some, tkI, List.length_cons, List.length_nil, Nat.one_mul, ↓reduceIte]
  have hc : (us.length + 1) * byOf Tryd.prog 3 ≤ 140737488355328 ∧ us.length + 1 ≤ 9223372036854775807 := by
    have : (us.length + 1) * byOf Tryd.prog 3 ≤ 1000001 * 200 := Nat.mul_le_mul (by omega) hb
    omega
  rcases h with ⟨rfl, rfl⟩ | ⟨_, t, rfl, hs⟩
  · refine ⟨_, upd s d ⟨(s d).t + 1, .tok 1⟩, ?_, .inr ⟨by simp, (s d).t + 1, rfl, upd_same _ _ _⟩, fun q hq => upd_ne _ _ hq⟩
    simp only [appendA, List.getElem?_toArray, List.getElem?_cons_zero, List.getElem?_cons_succ, Option.map_some, tkI, eszTi, Option.bind_some, hm, baseA, List.length_nil, Nat.zero_mul, ↓reduceIte, zlI, and_true]
    rw [if_pos (by simpa using hc)]
    simp [intsA]
  · refine ⟨_, upd (upd s d ⟨t, .dead⟩) d ⟨t + 1, .tok 1⟩, ?_, .inr ⟨by simp, t + 1, rfl, upd_same _ _ _⟩, fun q hq => (upd_ne _ _ hq).trans (upd_ne _ _ hq)⟩
    simp only [appendA, List.getElem?_toArray, List.getElem?_cons_zero, List.getElem?_cons_succ, Option.map_some, tkI, eszTi, Option.bind_some, hm, baseA, hs, intsA_len, Nat.mul_one, and_self, ↓reduceIte, zlI, and_true]
    rw [if_pos hc]
    simp only [upd_same, List.length_append, List.length_cons, List.length_nil, Nat.zero_add, hk]
def giOf (us : List Int) : Gk := if us = [] then .n else .l
theorem ApI.lent {s : St} {d : Nat} {x : AV} {us : List Int} (h : ApI s d x us) : isLent x = true ∧ loosen x = .sl (intsA us) us.length (gr (giOf us)) ∧ (isTree x = true → x = .sl (intsA us) us.length (gr (giOf us))) := by
  rcases h with ⟨rfl, rfl⟩ | ⟨hu, t, rfl, _⟩
  · exact ⟨rfl, rfl, fun _ => rfl⟩
  · exact ⟨rfl, by simp only [loosen, giOf, if_neg hu, gr], fun h => nomatch h⟩
theorem ApI.len {s : St} {d : Nat} {x : AV} {us : List Int} (h : ApI s d x us) (st : St) : lenA Tryd.prog 40 st x = some (.int .i64 (us.length : Int)) := by
  rcases h with ⟨rfl, rfl⟩ | ⟨hu, t, rfl, _⟩ <;> simp only [lenA, tkI] <;> rfl
set_option maxHeartbeats 4000000 in
theorem proper_eq (n d : Nat) (hn : 100000 ≤ n) (xs : List Int) (g : Grip) (hx : ∀ x ∈ xs, I64 x) : evalFn Tryd.prog cfg0 n (d+5) 17 [.tree (.sl (intsA xs) xs.length g)] = some (.tree (encT (listT ((xs.take 60).map intT) nilT')), [[]]) := by
  rw [evalFn_go _ Tryd.func17 (by unfold Tryd.f17; rfl) (by unfold Tryd.f17; decide) (Nat.le_of_ble_eq_true (by unfold Tryd.f17; rfl)) (by kernel_rfl)]
  have lx := fun st => lenInts st (intsA xs) xs.length g
  have ix := fun st i h => iaInts st (intsA xs) xs.length g i h
  simp only [zaa, zab, zac, zad, zae, zaf, zag, zah, zai, zaj, zak, zal, zam, zan, zao, zap, zaq, zar, zas, zat, zau, zav, zaw, zax, zay, zaz, zba, zbb, zbc, zbd, zbe, zbf, zbg, zbh, zbi, zbj, zbk, zbl, zbm, zbn, zbo, zbp, zbq, Nat.reduceBEq, Bool.or_self, Bool.or_false, Bool.or_true, Bool.and_true, Bool.and_false, Bool.true_and, Bool.false_and, Option.isNone_none, Option.isNone_some, Option.isSome_some, Option.isSome_none, zbr, zbs, zbt, zbu, zbv, zbw, zbx, zby, zbz, zca, zcb, zcc, zcd, zce, zcf, zcg, zch, zci, zcj, zck, zcl, zcm, zcn, zco, zcp, zcq, zcr, own0, zcs, zct, zcu, zcv, zcw, zcx, zcy, zcz, zda, zdb, zdc, zdd, zde, zdf, zdg, zdh, zdi, zdj, zdk, zdl, zdm, zdn, zdo, zdp, zdq, zdr, zds, zdt, zdu, Option.getD_some, Option.getD_none, zfb, zfc, zfd, zfe, zff, zfg, zfh, zfi, Option.map_some, Option.map_none, Option.bind_some, List.map_cons, List.map_nil, List.cons_append, List.nil_append, ↓reduceIte, Nat.reduceEqDiff, Nat.reduceAdd, decide_true, decide_false, Bool.true_eq_false, Bool.false_eq_true, env0, List.getElem?_cons_zero, List.getElem?_cons_succ, zdv, zdw, zdx, zdy, zdz, zea, zeb, zec, ia22, ld31, zed, zee, zef, zeg, zeh, zei, zej, zek, zel, zem, zen, zeo, zep, zeq, zer, fa_0, fa_1, zes, bd_0, bd_2, zet, fd_1, zeu, Nat.zero_add, zeroT, den_loop]
  refine loop_ends (X := Nat) (fun i env st => env 0 = .sl (intsA xs) xs.length g ∧ env 2 = .ptr 2 1 0 ∧ env 4 = .int .i64 (i : Int) ∧ Ap st 22 (env 3) ((xs.take i).map intT) ∧ st 2 = ⟨1, .buf [.int .i64 0, .bool false, .sl [] 0 .nil, .str [], .int .i64 0, .sl [] 0 .nil]⟩ ∧ i ≤ 60 ∧ i ≤ xs.length) (fun i => 60 - i) (fun _ => (.tree (encT (listT ((xs.take 60).map intT) nilT')), [[]])) ?_ n 0 _ _ (by omega) ⟨(by first | (simp only [zfi, ↓reduceIte, Nat.reduceEqDiff, env0, List.getElem?_cons_zero]; done) | (simp only [zfi, ↓reduceIte, Nat.reduceEqDiff, env0, List.getElem?_cons_zero]; rfl)), (by first | (simp only [zfi, ↓reduceIte, Nat.reduceEqDiff]; done) | (simp only [zfi, ↓reduceIte, Nat.reduceEqDiff]; rfl)), (by first | (simp only [zfi, ↓reduceIte, Nat.reduceEqDiff]; done) | (simp only [zfi, ↓reduceIte, Nat.reduceEqDiff]; rfl)), .inl ⟨rfl, (by first | (simp only [zfi, ↓reduceIte, Nat.reduceEqDiff]; done) | (simp only [zfi, ↓reduceIte, Nat.reduceEqDiff]; rfl))⟩, (by first | (simp only [zfi, ↓reduceIte, Nat.reduceEqDiff]; done) | (simp only [zfi, ↓reduceIte, Nat.reduceEqDiff]; rfl)), by omega, Nat.zero_le _⟩
  intro rr i hr ih env st ⟨e0, e2, e4, ap, j2, hi, hi2⟩
  by_cases hlt : i < xs.length ∧ i < 60
  · obtain ⟨hlt, h60⟩ := hlt
    have q1 : (i : Int) < (xs.length : Int) := by omega
    have q2 : (i : Int) < 60 := by omega
    have c1 := fun D st => callA_trees (cfg := cfg0) (d := D) (s := st) (f := 25) (vs := [.int .i64 xs[i]]) rfl (rInt_eq n d hn xs[i] (hx _ (List.getElem_mem hlt)))
    simp only [encT] at c1
    obtain ⟨x', s', a1, a2, a3⟩ := ap.push (by simp; omega) (intT xs[i])
    have f5 := i_add Tryd.prog 3 (i : Int) 1 (by omega) (by omega)
    have ld := fun st => ldInts xs i hlt st
    have hm : (xs.take (i + 1)).map intT = (xs.take i).map intT ++ [intT xs[i]] := by rw [List.take_succ_eq_append_getElem hlt, List.map_append]; rfl
    simp only [zaa, zab, zac, zad, zae, zaf, zag, zah, zai, zaj, zak, zal, zam, zan, zao, zap, zaq, zar, zas, zat, zau, zav, zaw, zax, zay, zaz, zba, zbb, zbc, zbd, zbe, zbf, zbg, zbh, zbi, zbj, zbk, zbl, zbm, zbn, zbo, zbp, zbq, Nat.reduceBEq, Bool.or_self, Bool.or_false, Bool.or_true, Bool.and_true, Bool.and_false, Bool.true_and, Bool.false_and, Option.isNone_none, Option.isNone_some, Option.isSome_some, Option.isSome_none, zbr, zbs, zbt, zbu, zbv, zbw, zbx, zby, zbz, zca, zcb, zcc, zcd, zce, zcf, zcg, zch, zci, zcj, zck, zcl, zcm, zcn, zco, zcp, zcq, zcr, own0, zcs, zct, zcu, zcv, zcw, zcx, zcy, zcz, zda, zdb, zdc, zdd, zde, zdf, zdg, zdh, zdi, zdj, zdk, zdl, zdm, zdn, zdo, zdp, zdq, zdr, zds, zdt, zdu, Option.getD_some, Option.getD_none, zfb, zfc, zfd, zfe, zff, zfg, zfh, zfi, Option.map_some, Option.map_none, Option.bind_some, List.map_cons, List.map_nil, List.cons_append, List.nil_append, ↓reduceIte, Nat.reduceEqDiff, Nat.reduceAdd, decide_true, decide_false, Bool.true_eq_false, Bool.false_eq_true, zdv, zdw, zdx, zdy, zdz, zea, zeb, zec, ia22, ld31, zed, zee, zef, zeg, zeh, zei, zej, zek, zel, zem, zen, zeo, zep, zeq, zer, fa_0, fa_1, zes, bd_0, bd_2, zet, fd_1, zeu, Nat.zero_add, e0, e2, e4, lx, q1, q2, ix _ i hlt, ld, c1, opA_one26, one26_T, a1, f5]
    exact ih (i + 1) _ _ (by omega) rfl ⟨(by first | (simp only [zfi, ↓reduceIte, Nat.reduceEqDiff, e0]; done) | (simp only [zfi, ↓reduceIte, Nat.reduceEqDiff, e0]; rfl)), (by first | (simp only [zfi, ↓reduceIte, Nat.reduceEqDiff, e2]; done) | (simp only [zfi, ↓reduceIte, Nat.reduceEqDiff, e2]; rfl)), (by first | (simp only [zfi, ↓reduceIte, Nat.reduceEqDiff]; done) | (simp only [zfi, ↓reduceIte, Nat.reduceEqDiff]; rfl)), by rw [hm]; exact a2, by rw [a3 2 (by decide)]; exact j2, by omega, by omega⟩
  have hie : xs.take i = xs.take 60 := by
    by_cases h60 : i = 60
    · rw [h60]
    · rw [List.take_of_length_le (by omega), List.take_of_length_le (by omega)]
  rw [hie] at ap
  obtain ⟨hl1, hl2⟩ := ap.lent
  have hlen : ((xs.take 60).map intT).length ≤ 60 := by simp; omega
  have cl := fun D st => callA_loose (call := evalFn Tryd.prog cfg0 n (d+4)) (d := D) (s := st) (f := 8) (vs := [env 3, encT nilT']) (vs' := [.sl (cellsK ((xs.take 60).map intT)) ((xs.take 60).map intT).length (gr (kgOf ((xs.take 60).map intT))), encT nilT']) (by simp only [List.all_cons, hl1, encT, lent_T, List.all_nil, Bool.and_self]) (by simp only [List.map_cons, hl2]; rfl) (rList_eq n (d+3) ((xs.take 60).map intT) _ nilT' (by omega) (by omega))
  simp only [encT] at cl
  by_cases hlt1 : i < xs.length
  · have q1 : (i : Int) < (xs.length : Int) := by omega
    have q2 : ¬ (i : Int) < 60 := by omega
    simp only [zaa, zab, zac, zad, zae, zaf, zag, zah, zai, zaj, zak, zal, zam, zan, zao, zap, zaq, zar, zas, zat, zau, zav, zaw, zax, zay, zaz, zba, zbb, zbc, zbd, zbe, zbf, zbg, zbh, zbi, zbj, zbk, zbl, zbm, zbn, zbo, zbp, zbq, Nat.reduceBEq, Bool.or_self, Bool.or_false, Bool.or_true, Bool.and_true, Bool.and_false, Bool.true_and, Bool.false_and, Option.isNone_none, Option.isNone_some, Option.isSome_some, Option.isSome_none, zbr, zbs, zbt, zbu, zbv, zbw, zbx, zby, zbz, zca, zcb, zcc, zcd, zce, zcf, zcg, zch, zci, zcj, zck, zcl, zcm, zcn, zco, zcp, zcq, zcr, own0, zcs, zct, zcu, zcv, zcw, zcx, zcy, zcz, zda, zdb, zdc, zdd, zde, zdf, zdg, zdh, zdi, zdj, zdk, zdl, zdm, zdn, zdo, zdp, zdq, zdr, zds, zdt, zdu, Option.getD_some, Option.getD_none, zfb, zfc, zfd, zfe, zff, zfg, zfh, zfi, Option.map_some, Option.map_none, Option.bind_some, List.map_cons, List.map_nil, List.cons_append, List.nil_append, ↓reduceIte, Nat.reduceEqDiff, Nat.reduceAdd, decide_true, decide_false, Bool.true_eq_false, Bool.false_eq_true, zdv, zdw, zdx, zdy, zdz, zea, zeb, zec, ia22, ld31, zed, zee, zef, zeg, zeh, zei, zej, zek, zel, zem, zen, zeo, zep, zeq, zer, fa_0, fa_1, zes, bd_0, bd_2, zet, fd_1, zeu, Nat.zero_add, e0, e2, e4, lx, j2, q1, q2, bdN3, cl, st_Tt, stT_6]
    exact finish_cT _ _ _ _ _ (listT ((xs.take 60).map intT) nilT') _ _ _ (by first | (simp only [zfi, ↓reduceIte, Nat.reduceEqDiff, e2]; done) | (simp only [zfi, ↓reduceIte, Nat.reduceEqDiff, e2]; rfl)) (by first | (simp only [zfi, ↓reduceIte, Nat.reduceEqDiff]; done) | (simp only [zfi, ↓reduceIte, Nat.reduceEqDiff]; rfl)) rfl
  · have q1 : ¬ (i : Int) < (xs.length : Int) := by omega
    simp only [zaa, zab, zac, zad, zae, zaf, zag, zah, zai, zaj, zak, zal, zam, zan, zao, zap, zaq, zar, zas, zat, zau, zav, zaw, zax, zay, zaz, zba, zbb, zbc, zbd, zbe, zbf, zbg, zbh, zbi, zbj, zbk, zbl, zbm, zbn, zbo, zbp, zbq, Nat.reduceBEq, Bool.or_self, Bool.or_false, Bool.or_true, Bool.and_true, Bool.and_false, Bool.true_and, Bool.false_and, Option.isNone_none, Option.isNone_some, Option.isSome_some, Option.isSome_none, zbr, zbs, zbt, zbu, zbv, zbw, zbx, zby, zbz, zca, zcb, zcc, zcd, zce, zcf, zcg, zch, zci, zcj, zck, zcl, zcm, zcn, zco, zcp, zcq, zcr, own0, zcs, zct, zcu, zcv, zcw, zcx, zcy, zcz, zda, zdb, zdc, zdd, zde, zdf, zdg, zdh, zdi, zdj, zdk, zdl, zdm, zdn, zdo, zdp, zdq, zdr, zds, zdt, zdu, Option.getD_some, Option.getD_none, zfb, zfc, zfd, zfe, zff, zfg, zfh, zfi, Option.map_some, Option.map_none, Option.bind_some, List.map_cons, List.map_nil, List.cons_append, List.nil_append, ↓reduceIte, Nat.reduceEqDiff, Nat.reduceAdd, decide_true, decide_false, Bool.true_eq_false, Bool.false_eq_true, zdv, zdw, zdx, zdy, zdz, zea, zeb, zec, ia22, ld31, zed, zee, zef, zeg, zeh, zei, zej, zek, zel, zem, zen, zeo, zep, zeq, zer, fa_0, fa_1, zes, bd_0, bd_2, zet, fd_1, zeu, Nat.zero_add, e0, e2, e4, lx, j2, q1, bdN3, cl, st_Tt, stT_6]
    exact finish_cT _ _ _ _ _ (listT ((xs.take 60).map intT) nilT') _ _ _ (by first | (simp only [zfi, ↓reduceIte, Nat.reduceEqDiff, e2]; done) | (simp only [zfi, ↓reduceIte, Nat.reduceEqDiff, e2]; rfl)) (by first | (simp only [zfi, ↓reduceIte, Nat.reduceEqDiff]; done) | (simp only [zfi, ↓reduceIte, Nat.reduceEqDiff]; rfl)) rfl
end Go.Ab

/- bif.Call by these names: integer_to_list, atom_to_list, length. Conditions: so many nodes at most. -/
namespace Go.Ab
open Go.Proofs
set_option maxRecDepth 100000
set_option linter.unusedSimpArgs false

def sErl : List UInt8 := [101, 114, 108, 97, 110, 103]
def throws : List AV := [.str [101, 114, 114, 111, 114], .str [101, 120, 105, 116], .str [116, 104, 114, 111, 119]]
def three64 (a b c : AV) : Option AV := (fillA (fun i => some (i * 1, 1)) (rep 3 [.str []]) [(0, a), (1, b), (2, c)]).map (.sl · 3 .tight)
theorem three64_str (a b c : List UInt8) : three64 (.str a) (.str b) (.str c) = some (.sl [.str a, .str b, .str c] 3 .tight) := rfl
theorem opA_three64 (call : FuncId → List Arg → Option Out) (q : Bool) (d : Option Tmp) (ty : TypeId) (pos : String) (af : Array Edge) (g : Option (Nat × Bool)) (t : Nat) (env : Env) (s : St) (x1 x2 x3 : Operand) :
    opA Tryd.prog cfg0 call q ⟨d, .buildSlice 53 3 #[(0, x1), (1, x2), (2, x3)], ty, pos, af, g⟩ t env s = (three64 (ev env x1) (ev env x2) (ev env x3)).map (·, s) := by
  rw [opA_bs]
  simp only [tk64, esz9, zero9, Option.bind_some, List.map_cons, List.map_nil]
  rfl
/-! ### What is thrown, as a struct -/
def zErr : List AV := [.str [], .int .i64 0, .bool false, .sl [] 0 .nil, .str [], .int .i64 0, .sl [] 0 .nil]
theorem tkE : tkOf Tryd.prog 33 = .st := by kernel_rfl
theorem eszE : esz Tryd.prog 33 = some 7 := by kernel_rfl
theorem shE : shOf Tryd.prog 33 = some (true, 7) := by kernel_rfl
theorem zeroE : zeroOf Tryd.prog 33 = some zErr := by kernel_rfl
theorem plE : placesA Tryd.prog 33 = some [(0, 1), (1, 6)] := by kernel_rfl
theorem bdE_ : buildA Tryd.prog 33 [] = some (.agg zErr) := by
  simp only [buildA, zeroE, tkE, plE, Option.bind_some, fillA]; rfl
theorem st_E (s : St) (p k : Nat) : storeA Tryd.prog 33 s (.ptr p k 0) (.agg zErr) = stT (s p) p k s zErr := by
  simp only [storeA, settle, Option.bind_some, stT]
  cases h : s p with
  | mk t c => cases c <;> simp [eszE, zErr]
theorem stE_z (t k p : Nat) (s : St) : stT ⟨t, .buf zErr⟩ p k s zErr = if t = k then some (upd s p ⟨t, .buf zErr⟩) else none := by
  simp [stT, splice, zErr]
theorem ldE_z (t k : Nat) : ldE Tryd.prog 33 ⟨t, .buf zErr⟩ k 0 = if t = k then some (.agg zErr) else none := by
  rw [ldE_buf, cellsE_buf]
  by_cases h : t = k
  · simp [h, partA, shE, zErr]
  · simp [h]
theorem finish_T2 (k : Bool) (xs : List Arg) (a p e : Nat) (u : T) (t : Nat) (v : Bool) (env : Env) (s : St) (os : List (List AV)) (ha : env a = .ptr p e 0) (hs : s p = ⟨e, .buf (cellsT u)⟩) (hv : env t = .bool v) (ho : outsA s 0 xs = some os) :
    finishP Tryd.prog k xs #[.cell a 29, .tmp t] env s = some (.tree (.tup [encT u, .bool v]), os) := by
  have hl : loadA Tryd.prog 29 s (env a) = some (.agg (cellsT u)) := by rw [ha, zem, hs, ldT_u, if_pos rfl]
  simp [finishP, isTmpR, rvA, hl, hv, settleL, settle, ho, encT]
theorem finish_T3 (k : Bool) (xs : List Arg) (a p e : Nat) (u : T) (b q e' : Nat) (t : Nat) (v : Bool) (env : Env) (s : St) (os : List (List AV)) (ha : env a = .ptr p e 0) (hs : s p = ⟨e, .buf (cellsT u)⟩) (hb : env b = .ptr q e' 0) (hq : s q = ⟨e', .buf zErr⟩) (hv : env t = .bool v) (ho : outsA s 0 xs = some os) :
    finishP Tryd.prog k xs #[.cell a 29, .cell b 33, .tmp t] env s = some (.tree (.tup [encT u, .agg zErr, .bool v]), os) := by
  have hl : loadA Tryd.prog 29 s (env a) = some (.agg (cellsT u)) := by rw [ha, zem, hs, ldT_u, if_pos rfl]
  have hl2 : loadA Tryd.prog 33 s (env b) = some (.agg zErr) := by rw [hb, zem, hq, ldE_z, if_pos rfl]
  simp [finishP, isTmpR, rvA, hl, hl2, hv, settleL, settle, ho, encT]
theorem one26_K1 (e : T) : one26 (.agg (cellsT e)) = some (.sl (cellsK [e]) 1 .tight) := one26_K e
theorem ld_K1 (st : St) (t : T) (r : List T) : loadA Tryd.prog 29 st (.rptr (cellsK (t :: r))) = some (.agg (cellsT t)) := ld_K st t r
end Go.Ab

/- The statement TermLists. Conditions: limbs in range; texts in range. -/
namespace Go.Ab
open Go.Proofs
set_option maxRecDepth 100000
set_option linter.unusedSimpArgs false

mutual
theorem same_refl : ∀ t : T, sameT t t = true
  | .mk k b lg l s m kg ks => by
    have h := sameK_refl ks
    simp only [sameT, kindT, sgnT, limT, strT, nT, kidsT, ↓reduceIte, h, decide_true, Bool.and_self]
    repeat' split
    all_goals rfl
theorem sameK_refl : ∀ ks : List T, sameK ks ks = true
  | [] => by simp only [sameK]
  | t :: r => by simp only [sameK, same_refl t, sameK_refl r, Bool.and_self]
end
section
variable (R : Nat) (hR : 1000000 ≤ R) (hR2 : R ≤ 9223372036854775808) (ks : List T) (hl : ks.length ≤ 60) (n : Int)
include hR hl
end
end Go.Ab

/- What BifTexts compares: lists of a text's bytes. Conditions: lengths in range. -/
namespace Go.Ab
open Go.Proofs
set_option maxRecDepth 100000
set_option linter.unusedSimpArgs false

theorem ApI.proper {s : St} {d : Nat} {x : AV} {us : List Int} (h : ApI s d x us) (n D : Nat) (hn : 100000 ≤ n) (hx : ∀ x ∈ us, I64 x) : callQ (evalFn Tryd.prog cfg0 n (D+5)) 17 [x] = some (encT (listT ((us.take 60).map intT) nilT')) := by
  rcases h with ⟨rfl, rfl⟩ | ⟨_, t, rfl, _⟩
  · exact callQ_trees (vs := [.sl [] 0 .nil]) rfl (proper_eq n D hn [] .nil (by simp))
  · exact callQ_loose (vs := [.sl (intsA us) us.length (.tok d t)]) rfl rfl rfl (proper_eq n D hn us .loose hx)
def isOkB : Option Out → Bool
  | some (.tree (.bool true), []) => true
  | _ => false
theorem isOkB_eq {o : Option Out} (h : isOkB o = true) : o = some (.tree (.bool true), []) := by
  unfold isOkB at h
  split at h
  · rfl
  · cases h
theorem awakeB_eq : evalFn Tryd.prog cfg0 100000 60 7 [] = some (.tree (.bool true), []) := isOkB_eq (by kernel_rfl)
end Go.Ab

/- relictref03.Items of a list, relictref03.Many. Conditions: so many nodes at most. -/
namespace Go.Ab
open Go.Proofs
set_option maxRecDepth 100000
set_option linter.unusedSimpArgs false

end Go.Ab

/- Rows of terms in cells that are written: one taken, one put; turned round step by step. Conditions: places in range. -/
namespace Go.Ab
open Go.Proofs
set_option linter.unusedSimpArgs false

theorem cellsK_put (ks : List T) (i : Nat) (t : T) (h : i < ks.length) : splice (cellsK ks) (i * 6) (cellsT t) = cellsK (ks.set i t) := by
  rw [List.set_eq_take_append_cons_drop, if_pos h, cellsK_append]
  simp only [splice, cellsK, cellsT_len, cellsK_take]
  rw [show i * 6 + 6 = (i + 1) * 6 by omega, cellsK_drop]
  simp
end Go.Ab

/- slices.Reverse of a row that is written (CFG1). Conditions: lengths in range. -/
namespace Go.Ab
open Go.Proofs
set_option maxRecDepth 100000
set_option linter.unusedSimpArgs false

theorem iaO (s : St) (p k len : Nat) (kd : IntKind) (i : Int) : indexAddrA Tryd.prog 22 s (.own p k 0 len 6) (.int kd i) = if (cellsE (s p) k).isSome = true ∧ 0 ≤ i ∧ i < len then some (.ptr p k (i.toNat * 6)) else none := by
  simp only [indexAddrA, tkTk, eszT, Option.bind_some, live, cellsAt_E, Nat.zero_add]
def stOE (e : Ent) (p k i : Nat) (s : St) (u : T) : Option St :=
  match e with | ⟨t, .buf ys⟩ => if t = k then (if i * 6 + 6 ≤ ys.length then some (upd s p ⟨t, .buf (splice ys (i * 6) (cellsT u))⟩) else none) else none | _ => none
theorem stO (s : St) (p k i : Nat) (u : T) : storeA Tryd.prog 29 s (.ptr p k (i * 6)) (.agg (cellsT u)) = stOE (s p) p k i s u := by
  have hl := cellsT_len u
  simp only [storeA, settle, Option.bind_some, stOE]
  cases h : s p with
  | mk t c => cases c <;> simp [eszT, hl]
theorem stOE_K (t p k i : Nat) (s : St) (u : T) (xs : List T) : stOE ⟨t, .buf (cellsK xs)⟩ p k i s u = if t = k then (if i < xs.length then some (upd s p ⟨t, .buf (cellsK (xs.set i u))⟩) else none) else none := by
  simp only [stOE, cellsK_len]
  by_cases h : i < xs.length
  · rw [if_pos (show i * 6 + 6 ≤ xs.length * 6 by omega), if_pos h, cellsK_put xs i u h]
  · rw [if_neg (show ¬ i * 6 + 6 ≤ xs.length * 6 by omega), if_neg h]
end Go.Ab

/- The terms of a list, that stay writable (CFG1): term.Items. Conditions: lengths in range. -/
namespace Go.Ab
open Go.Proofs
set_option maxRecDepth 100000
set_option linter.unusedSimpArgs false

theorem roomJ (n : Nat) (h : n ≤ 1000001) : n * byOf Tryd.prog 29 ≤ 140737488355328 ∧ n ≤ 9223372036854775807 := by
  have hb := of_decide_eq_true by28
  have : n * byOf Tryd.prog 29 ≤ 1000001 * 200 := Nat.mul_le_mul h hb
  omega
/-! ### A row that is written, by appends -/
def ApO (s : St) (d : Nat) (x : AV) (us : List T) : Prop := (us = [] ∧ x = .sl [] 0 .nil) ∨ (us ≠ [] ∧ ∃ t, x = .own d t 0 us.length 6 ∧ s d = ⟨t, .buf (cellsK us)⟩)
theorem ApO.push {s : St} {d : Nat} {x : AV} {us : List T} (h : ApO s d x us) (hl : us.length ≤ 1000000) (v : T) :
    ∃ x' s', appendO Tryd.prog #[22, 22] d s x (.sl (cellsT v) 1 .tight) = some (x', s') ∧ ApO s' d x' (us ++ [v]) ∧ ∀ q, q ≠ d → s' q = s q := by
  have hm : moreA Tryd.prog 29 6 (some 22) s (.sl (cellsT v) 1 .tight) = some (cellsT v, 1) := by
    simp only [moreA, Option.map_some, tkTk, cellsT_len, Nat.one_mul, ↓reduceIte]
  have hk : cellsK (us ++ [v]) = cellsK us ++ cellsT v := by rw [cellsK_append]; simp only [cellsK, List.append_nil]
  have h1 : (us.length + 1) * byOf Tryd.prog 29 ≤ 140737488355328 ∧ us.length + 1 ≤ 9223372036854775807 := roomJ (us.length + 1) (by omega)
  rcases h with ⟨rfl, rfl⟩ | ⟨hu, t, rfl, hs⟩
  · refine ⟨.own d ((s d).t + 1) 0 1 6, upd s d ⟨(s d).t + 1, .buf (cellsT v)⟩, ?_, .inr ⟨by simp, (s d).t + 1, rfl, by rw [upd_same]; simp [cellsK]⟩, fun q hq => upd_ne _ _ hq⟩
    have h2 : 1 * byOf Tryd.prog 29 ≤ 140737488355328 := by simpa using h1.1
    simp only [appendO, List.getElem?_toArray, List.getElem?_cons_zero, List.getElem?_cons_succ, Option.map_some, tkTk, eszT, Option.bind_some, hm, zl28, ↓reduceIte, Nat.le_refl, true_and, true_or]
    rw [if_pos ⟨h2, by decide⟩]
  · refine ⟨.own d ((s d).t + 1) 0 (us.length + 1) 6, upd (upd s d ⟨t, .dead⟩) d ⟨(s d).t + 1, .buf (cellsK us ++ cellsT v)⟩, ?_, .inr ⟨by simp, (s d).t + 1, by simp, by rw [upd_same, hk]⟩, fun q hq => by rw [upd_ne _ _ hq, upd_ne _ _ hq]⟩
    simp only [appendO, List.getElem?_toArray, List.getElem?_cons_zero, List.getElem?_cons_succ, Option.map_some, tkTk, eszT, Option.bind_some, hm, zl28, ↓reduceIte, hs, cellsK_len, true_and]
    rw [if_pos h1]

end Go.Ab

/- bif.one of reverse, run with a list's terms writable (CFG1). Condition: a proper list, its length in range. -/
namespace Go.Ab
open Go.Proofs
set_option maxRecDepth 100000
set_option linter.unusedSimpArgs false

section
variable {cfg : Cfg} {call : FuncId → List Arg → Option Out}
end
end Go.Ab

/- relictref03.Cmp, walked. Conditions: terms that may be. -/
namespace Go.Ab
open Go.Proofs
set_option maxRecDepth 100000
set_option linter.unusedSimpArgs false

end Go.Ab

/- bif.two: max, min, member; bif.Call of two arguments. Conditions: terms that may be. -/
namespace Go.Ab
open Go.Proofs
set_option maxRecDepth 100000
set_option linter.unusedSimpArgs false

def atomT (s : List UInt8) : T := .mk 2 false .n [] s 0 .n []
theorem bdT_at (s : List UInt8) : buildA Tryd.prog 29 [(0, .int .i64 2), (2, .str s)] = some (.agg (cellsT (atomT s))) := bdT_2 2 s
theorem atom_eq (n d : Nat) (s : List UInt8) : evalFn Tryd.prog cfg0 n (d+1) 20 [.tree (.str s)] = some (.tree (encT (atomT s)), [[]]) := by
  rw [evalFn_go _ Tryd.func20 (by unfold Tryd.f20; rfl) (by unfold Tryd.f20; decide) (Nat.le_of_ble_eq_true (by unfold Tryd.f20; rfl)) (by kernel_rfl)]
  simp only [zaa, zab, zac, zad, zae, zaf, zag, zah, zai, zaj, zak, zal, zam, zan, zao, zap, zaq, zar, zas, zat, zau, zav, zaw, zax, zay, zaz, zba, zbb, zbc, zbd, zbe, zbf, zbg, zbh, zbi, zbj, zbk, zbl, zbm, zbn, zbo, zbp, zbq, Nat.reduceBEq, Bool.or_self, Bool.or_false, Bool.or_true, Bool.and_true, Bool.and_false, Bool.true_and, Bool.false_and, Option.isNone_none, Option.isNone_some, Option.isSome_some, Option.isSome_none, zbr, zbs, zbt, zbu, zbv, zbw, zbx, zby, zbz, zca, zcb, zcc, zcd, zce, zcf, zcg, zch, zci, zcj, zck, zcl, zcm, zcn, zco, zcp, zcq, zcr, own0, zcs, zct, zcu, zcv, zcw, zcx, zcy, zcz, zda, zdb, zdc, zdd, zde, zdf, zdg, zdh, zdi, zdj, zdk, zdl, zdm, zdn, zdo, zdp, zdq, zdr, zds, zdt, zdu, Option.getD_some, Option.getD_none, zfb, zfc, zfd, zfe, zff, zfg, zfh, zfi, Option.map_some, Option.map_none, Option.bind_some, List.map_cons, List.map_nil, List.cons_append, List.nil_append, ↓reduceIte, Nat.reduceEqDiff, Nat.reduceAdd, decide_true, decide_false, Bool.true_eq_false, Bool.false_eq_true, env0, List.getElem?_cons_zero, List.getElem?_cons_succ, zdv, zdw, zdx, zdy, zdz, zea, zeb, zec, ia22, ld31, zed, zee, zef, zeg, zeh, zei, zej, zek, zel, zem, zen, zeo, zep, zeq, zer, fa_0, fa_1, zes, bd_0, bd_2, zet, fd_1, zeu, Nat.zero_add, zeroT, bdT_at, st_Tt, stT_6]
  exact finish_cT _ _ _ _ _ (atomT s) _ _ _ (by first | (simp only [zfi, ↓reduceIte, Nat.reduceEqDiff]; done) | (simp only [zfi, ↓reduceIte, Nat.reduceEqDiff]; rfl)) (by first | (simp only [zfi, ↓reduceIte, Nat.reduceEqDiff]; done) | (simp only [zfi, ↓reduceIte, Nat.reduceEqDiff]; rfl)) rfl
theorem ia_K2a (st : St) (t u : T) : indexAddrA Tryd.prog 22 st (.sl (cellsK [t, u]) 2 .tight) (.int .i64 0) = some (.rptr (cellsK [t, u])) := ia_K st [t, u] .tight 0 (Nat.zero_lt_succ _)
theorem ia_K2b (st : St) (t u : T) : indexAddrA Tryd.prog 22 st (.sl (cellsK [t, u]) 2 .tight) (.int .i64 1) = some (.rptr (cellsK [u])) := ia_K st [t, u] .tight 1 (Nat.lt_succ_self _)
set_option maxHeartbeats 4000000 in
theorem answer2_eq (R d : Nat) (name : List UInt8) (t t' u : T) (v : Bool) (h : evalFn Tryd.prog cfg0 R d 35 [.tree (.str name), .tree (encT t), .tree (encT t')] = some (.tree (.tup [encT u, .bool v]), [[], [], []])) :
    evalFn Tryd.prog cfg0 R (d+1) 22 [.tree (.str name), .tree (.sl (cellsK [t, t']) 2 .tight)] = some (.tree (.tup [encT u, .bool v]), [[], []]) := by
  rw [evalFn_go _ Tryd.func22 (by unfold Tryd.f22; rfl) (by unfold Tryd.f22; decide) (Nat.le_of_ble_eq_true (by unfold Tryd.f22; rfl)) (by kernel_rfl)]
  have c := callQ_trees (f := 35) (vs := [.str name, encT t, encT t']) rfl h
  simp only [encT] at c
  have q1 : (((2 : Nat) : Int) == 1) = false := rfl
  have q2 : (((2 : Nat) : Int) == 2) = true := rfl
  simp only [zaa, zab, zac, zad, zae, zaf, zag, zah, zai, zaj, zak, zal, zam, zan, zao, zap, zaq, zar, zas, zat, zau, zav, zaw, zax, zay, zaz, zba, zbb, zbc, zbd, zbe, zbf, zbg, zbh, zbi, zbj, zbk, zbl, zbm, zbn, zbo, zbp, zbq, Nat.reduceBEq, Bool.or_self, Bool.or_false, Bool.or_true, Bool.and_true, Bool.and_false, Bool.true_and, Bool.false_and, Option.isNone_none, Option.isNone_some, Option.isSome_some, Option.isSome_none, zbr, zbs, zbt, zbu, zbv, zbw, zbx, zby, zbz, zca, zcb, zcc, zcd, zce, zcf, zcg, zch, zci, zcj, zck, zcl, zcm, zcn, zco, zcp, zcq, zcr, own0, zcs, zct, zcu, zcv, zcw, zcx, zcy, zcz, zda, zdb, zdc, zdd, zde, zdf, zdg, zdh, zdi, zdj, zdk, zdl, zdm, zdn, zdo, zdp, zdq, zdr, zds, zdt, zdu, Option.getD_some, Option.getD_none, zfb, zfc, zfd, zfe, zff, zfg, zfh, zfi, Option.map_some, Option.map_none, Option.bind_some, List.map_cons, List.map_nil, List.cons_append, List.nil_append, ↓reduceIte, Nat.reduceEqDiff, Nat.reduceAdd, decide_true, decide_false, Bool.true_eq_false, Bool.false_eq_true, env0, List.getElem?_cons_zero, List.getElem?_cons_succ, zdv, zdw, zdx, zdy, zdz, zea, zeb, zec, ia22, ld31, zed, zee, zef, zeg, zeh, zei, zej, zek, zel, zem, zen, zeo, zep, zeq, zer, fa_0, fa_1, zes, bd_0, bd_2, zet, fd_1, zeu, Nat.zero_add, zeroT, lenTk, i_eqlV, q1, q2, ia_K2a, ia_K2b, ld_K1, c, zds, st_Tt, stT_6]
  exact finish_T2 _ _ _ _ _ u _ _ _ _ _ (by first | (simp only [zfi, ↓reduceIte, Nat.reduceEqDiff]; done) | (simp only [zfi, ↓reduceIte, Nat.reduceEqDiff]; rfl)) (by first | (simp only [zfi, ↓reduceIte, Nat.reduceEqDiff]; done) | (simp only [zfi, ↓reduceIte, Nat.reduceEqDiff]; rfl)) (by first | (simp only [zfi, ↓reduceIte, Nat.reduceEqDiff]; done) | (simp only [zfi, ↓reduceIte, Nat.reduceEqDiff]; rfl)) rfl
set_option maxHeartbeats 4000000 in
theorem call2_eq (R d : Nat) (name : List UInt8) (t t' u : T) (h1 : evalFn Tryd.prog cfg0 R d 19 [.tree (.str sErl), .tree (.str name), .tree (.int .i64 2)] = some (.tree (.bool true), [[], [], []]))
    (h2 : evalFn Tryd.prog cfg0 R d 21 [.tree (.sl throws 3 .tight), .tree (.str name)] = some (.tree (.bool false), [[], []]))
    (h3 : evalFn Tryd.prog cfg0 R d 22 [.tree (.str name), .tree (.sl (cellsK [t, t']) 2 .tight)] = some (.tree (.tup [encT u, .bool true]), [[], []]))
    (h4 : evalFn Tryd.prog cfg0 R d 23 [.tree (encT u)] = some (.tree (.int .i64 (nodT u : Int)), [[]])) (h5 : nodT u ≤ 2000) :
    evalFn Tryd.prog cfg0 R (d+1) 10 [.tree (.str sErl), .tree (.str name), .tree (.sl (cellsK [t, t']) 2 .tight)] = some (.tree (.tup [encT u, .agg zErr, .bool true]), [[], [], []]) := by
  rw [evalFn_goP _ Tryd.func10 (by unfold Tryd.f10; rfl) (by unfold Tryd.f10; decide) (Nat.le_of_ble_eq_true (by unfold Tryd.f10; rfl)) (by kernel_rfl)]
  have c1 := fun D st => callA_trees (cfg := cfg0) (d := D) (s := st) (f := 19) (vs := [.str sErl, .str name, .int .i64 2]) rfl h1
  have c2 := fun D st => callA_trees (cfg := cfg0) (d := D) (s := st) (f := 21) (vs := [.sl throws 3 .tight, .str name]) rfl h2
  simp only [throws] at c2
  have c3 := fun D st => callA_trees (cfg := cfg0) (d := D) (s := st) (f := 22) (vs := [.str name, .sl (cellsK [t, t']) 2 .tight]) rfl h3
  have c4 := fun D st => callA_trees (cfg := cfg0) (d := D) (s := st) (f := 23) (vs := [encT u]) rfl h4
  simp only [encT] at c3 c4
  have e1 : ((2 : Nat) : Int) = 2 := rfl
  have w5 : (sErl == ([101, 114, 108, 97, 110, 103] : List UInt8)) = true := by decide
  have q1 : ¬ ((nodT u : Int) > 2000) := by omega
  simp only [prune_seq, prune_cond, prune_block, prune_loop, prune_scope, prune_text, prune_skip, prune_ret, prune_exit, zaa, zab, zac, zad, zae, zaf, zag, zah, zai, zaj, zak, zal, zam, zan, zao, zap, zaq, zar, zas, zat, zau, zav, zaw, zax, zay, zaz, zba, zbb, zbc, zbd, zbe, zbf, zbg, zbh, zbi, zbj, zbk, zbl, zbm, zbn, zbo, zbp, zbq, Nat.reduceBEq, Bool.or_self, Bool.or_false, Bool.or_true, Bool.and_true, Bool.and_false, Bool.true_and, Bool.false_and, Option.isNone_none, Option.isNone_some, Option.isSome_some, Option.isSome_none, zbr, zbs, zbt, zbu, zbv, zbw, zbx, zby, zbz, zca, zcb, zcc, zcd, zce, zcf, zcg, zch, zci, zcj, zck, zcl, zcm, zcn, zco, zcp, zcq, zcr, own0, zcs, zct, zcu, zcv, zcw, zcx, zcy, zcz, zda, zdb, zdc, zdd, zde, zdf, zdg, zdh, zdi, zdj, zdk, zdl, zdm, zdn, zdo, zdp, zdq, zdr, zds, zdt, zdu, Option.getD_some, Option.getD_none, zfb, zfc, zfd, zfe, zff, zfg, zfh, zfi, Option.map_some, Option.map_none, Option.bind_some, List.map_cons, List.map_nil, List.cons_append, List.nil_append, ↓reduceIte, Nat.reduceEqDiff, Nat.reduceAdd, decide_true, decide_false, Bool.true_eq_false, Bool.false_eq_true, env0, List.getElem?_cons_zero, List.getElem?_cons_succ, zdv, zdw, zdx, zdy, zdz, zea, zeb, zec, ia22, ld31, zed, zee, zef, zeg, zeh, zei, zej, zek, zel, zem, zen, zeo, zep, zeq, zer, fa_0, fa_1, zes, bd_0, bd_2, zet, fd_1, zeu, Nat.zero_add, zev, List.toList_toArray, len9, ix9, zew, zex, zey, zez, zfa, zeroT, zeroE, lenTk, e1, i_eqlV, s_eqlS, w5, opA_three64, three64_str, c1, c2, c3, c4, unA_not', Bool.not_true, zds, q1, ldT_u, bdE_, st_Tt, stT_6, st_E, stE_z]
  exact finish_T3 _ _ _ _ _ u _ _ _ _ _ _ _ _ (by first | (simp only [zfi, ↓reduceIte, Nat.reduceEqDiff]; done) | (simp only [zfi, ↓reduceIte, Nat.reduceEqDiff]; rfl)) (by first | (simp only [zfi, ↓reduceIte, Nat.reduceEqDiff]; done) | (simp only [zfi, ↓reduceIte, Nat.reduceEqDiff]; rfl)) (by first | (simp only [zfi, ↓reduceIte, Nat.reduceEqDiff]; done) | (simp only [zfi, ↓reduceIte, Nat.reduceEqDiff]; rfl)) (by first | (simp only [zfi, ↓reduceIte, Nat.reduceEqDiff]; done) | (simp only [zfi, ↓reduceIte, Nat.reduceEqDiff]; rfl)) (by first | (simp only [zfi, ↓reduceIte, Nat.reduceEqDiff]; done) | (simp only [zfi, ↓reduceIte, Nat.reduceEqDiff]; rfl)) rfl
end Go.Ab

/- bif.Call of reverse, ++, list_to_tuple, tuple_to_list. Conditions: so many nodes at most. -/
namespace Go.Ab
open Go.Proofs
set_option maxRecDepth 100000
set_option linter.unusedSimpArgs false

end Go.Ab

/- bif.place, bif.Two, bif.Call of element. Conditions: numbers in range. -/
namespace Go.Ab
open Go.Proofs
set_option maxRecDepth 100000
set_option linter.unusedSimpArgs false

theorem isN_int (v : Int) (h : I64 v) : IsN (.agg [.bool (decide (v < 0)), encL .l (digs v.natAbs)]) v := by
  have hb : v.natAbs < B ^ 12 := Nat.lt_of_lt_of_le (show v.natAbs < 18446744073709551616 by have := h.1; have := h.2; omega) (by decide)
  exact isN_can .l v hb
set_option maxHeartbeats 8000000 in
theorem bplace_eq (R d : Nat) (hR : 100000 ≤ R) (v : Int) (h1 : -1000000 ≤ v) (h2 : v ≤ 1000000) (kg : Gk) (us : List T) (_hl : us.length ≤ 1000000) : evalFn Tryd.prog cfg0 R (d+4) 36 [.tree (encT (intT v)), .tree (encT (tupT kg us))] = some (.tree (.tup [.int .i64 (v - 1), .bool (decide (1 ≤ v) && decide (v ≤ us.length))]), [[], []]) := by
  rw [evalFn_go _ Tryd.func36 (by unfold Tryd.f36; rfl) (by unfold Tryd.f36; decide) (Nat.le_of_ble_eq_true (by unfold Tryd.f36; rfl)) (by kernel_rfl)]
  have c1 := fun D st => cInt R d hR (isN_int v ⟨by omega, by omega⟩) D st
  have hz : isI64 v = true := by unfold isI64; rw [decide_eq_true (show -9223372036854775808 ≤ v by omega), decide_eq_true (show v < 9223372036854775808 by omega)]; rfl
  have hzz : intZ v = .tup [.int .i64 v, .bool true] := by rw [intZ, if_pos hz]
  rw [hzz] at c1
  have f5 := i_sub Tryd.prog 3 v 1 (by omega) (by omega)
  by_cases q1 : v ≥ 1
  · by_cases q2 : v ≤ (us.length : Int)
    · rw [decide_eq_true (show 1 ≤ v from q1), decide_eq_true q2]
      simp only [zaa, zab, zac, zad, zae, zaf, zag, zah, zai, zaj, zak, zal, zam, zan, zao, zap, zaq, zar, zas, zat, zau, zav, zaw, zax, zay, zaz, zba, zbb, zbc, zbd, zbe, zbf, zbg, zbh, zbi, zbj, zbk, zbl, zbm, zbn, zbo, zbp, zbq, Nat.reduceBEq, Bool.or_self, Bool.or_false, Bool.or_true, Bool.and_true, Bool.and_false, Bool.true_and, Bool.false_and, Option.isNone_none, Option.isNone_some, Option.isSome_some, Option.isSome_none, zbr, zbs, zbt, zbu, zbv, zbw, zbx, zby, zbz, zca, zcb, zcc, zcd, zce, zcf, zcg, zch, zci, zcj, zck, zcl, zcm, zcn, zco, zcp, zcq, zcr, own0, zcs, zct, zcu, zcv, zcw, zcx, zcy, zcz, zda, zdb, zdc, zdd, zde, zdf, zdg, zdh, zdi, zdj, zdk, zdl, zdm, zdn, zdo, zdp, zdq, zdr, zds, zdt, zdu, Option.getD_some, Option.getD_none, zfb, zfc, zfd, zfe, zff, zfg, zfh, zfi, Option.map_some, Option.map_none, Option.bind_some, List.map_cons, List.map_nil, List.cons_append, List.nil_append, ↓reduceIte, Nat.reduceEqDiff, Nat.reduceAdd, decide_true, decide_false, Bool.true_eq_false, Bool.false_eq_true, env0, List.getElem?_cons_zero, List.getElem?_cons_succ, zdv, zdw, zdx, zdy, zdz, zea, zeb, zec, ia22, ld31, zed, zee, zef, zeg, zeh, zei, zej, zek, zel, zem, zen, zeo, zep, zeq, zer, fa_0, fa_1, zes, bd_0, bd_2, zet, fd_1, zeu, Nat.zero_add, intT, tupT, encT, cellsT, ldT_0, ldT_1, ldT_4, faT_0, faT_1, faT_4, i_neqV, i_eqlV, Int.reduceBNe, c1, zds, f5, q1, q2, lenTk]
      exact finish_ib _ _ _ _ _ _ _ _ _ (by first | (simp only [zfi, ↓reduceIte, Nat.reduceEqDiff]; done) | (simp only [zfi, ↓reduceIte, Nat.reduceEqDiff]; rfl)) (by first | (simp only [zfi, ↓reduceIte, Nat.reduceEqDiff]; done) | (simp only [zfi, ↓reduceIte, Nat.reduceEqDiff]; rfl)) rfl
    · rw [decide_eq_true (show 1 ≤ v from q1), decide_eq_false q2]
      simp only [zaa, zab, zac, zad, zae, zaf, zag, zah, zai, zaj, zak, zal, zam, zan, zao, zap, zaq, zar, zas, zat, zau, zav, zaw, zax, zay, zaz, zba, zbb, zbc, zbd, zbe, zbf, zbg, zbh, zbi, zbj, zbk, zbl, zbm, zbn, zbo, zbp, zbq, Nat.reduceBEq, Bool.or_self, Bool.or_false, Bool.or_true, Bool.and_true, Bool.and_false, Bool.true_and, Bool.false_and, Option.isNone_none, Option.isNone_some, Option.isSome_some, Option.isSome_none, zbr, zbs, zbt, zbu, zbv, zbw, zbx, zby, zbz, zca, zcb, zcc, zcd, zce, zcf, zcg, zch, zci, zcj, zck, zcl, zcm, zcn, zco, zcp, zcq, zcr, own0, zcs, zct, zcu, zcv, zcw, zcx, zcy, zcz, zda, zdb, zdc, zdd, zde, zdf, zdg, zdh, zdi, zdj, zdk, zdl, zdm, zdn, zdo, zdp, zdq, zdr, zds, zdt, zdu, Option.getD_some, Option.getD_none, zfb, zfc, zfd, zfe, zff, zfg, zfh, zfi, Option.map_some, Option.map_none, Option.bind_some, List.map_cons, List.map_nil, List.cons_append, List.nil_append, ↓reduceIte, Nat.reduceEqDiff, Nat.reduceAdd, decide_true, decide_false, Bool.true_eq_false, Bool.false_eq_true, env0, List.getElem?_cons_zero, List.getElem?_cons_succ, zdv, zdw, zdx, zdy, zdz, zea, zeb, zec, ia22, ld31, zed, zee, zef, zeg, zeh, zei, zej, zek, zel, zem, zen, zeo, zep, zeq, zer, fa_0, fa_1, zes, bd_0, bd_2, zet, fd_1, zeu, Nat.zero_add, intT, tupT, encT, cellsT, ldT_0, ldT_1, ldT_4, faT_0, faT_1, faT_4, i_neqV, i_eqlV, Int.reduceBNe, c1, zds, f5, q1, q2, lenTk]
      exact finish_ib _ _ _ _ _ _ _ _ _ (by first | (simp only [zfi, ↓reduceIte, Nat.reduceEqDiff]; done) | (simp only [zfi, ↓reduceIte, Nat.reduceEqDiff]; rfl)) (by first | (simp only [zfi, ↓reduceIte, Nat.reduceEqDiff]; done) | (simp only [zfi, ↓reduceIte, Nat.reduceEqDiff]; rfl)) rfl
  · rw [decide_eq_false (show ¬ 1 ≤ v from q1), Bool.false_and]
    simp only [zaa, zab, zac, zad, zae, zaf, zag, zah, zai, zaj, zak, zal, zam, zan, zao, zap, zaq, zar, zas, zat, zau, zav, zaw, zax, zay, zaz, zba, zbb, zbc, zbd, zbe, zbf, zbg, zbh, zbi, zbj, zbk, zbl, zbm, zbn, zbo, zbp, zbq, Nat.reduceBEq, Bool.or_self, Bool.or_false, Bool.or_true, Bool.and_true, Bool.and_false, Bool.true_and, Bool.false_and, Option.isNone_none, Option.isNone_some, Option.isSome_some, Option.isSome_none, zbr, zbs, zbt, zbu, zbv, zbw, zbx, zby, zbz, zca, zcb, zcc, zcd, zce, zcf, zcg, zch, zci, zcj, zck, zcl, zcm, zcn, zco, zcp, zcq, zcr, own0, zcs, zct, zcu, zcv, zcw, zcx, zcy, zcz, zda, zdb, zdc, zdd, zde, zdf, zdg, zdh, zdi, zdj, zdk, zdl, zdm, zdn, zdo, zdp, zdq, zdr, zds, zdt, zdu, Option.getD_some, Option.getD_none, zfb, zfc, zfd, zfe, zff, zfg, zfh, zfi, Option.map_some, Option.map_none, Option.bind_some, List.map_cons, List.map_nil, List.cons_append, List.nil_append, ↓reduceIte, Nat.reduceEqDiff, Nat.reduceAdd, decide_true, decide_false, Bool.true_eq_false, Bool.false_eq_true, env0, List.getElem?_cons_zero, List.getElem?_cons_succ, zdv, zdw, zdx, zdy, zdz, zea, zeb, zec, ia22, ld31, zed, zee, zef, zeg, zeh, zei, zej, zek, zel, zem, zen, zeo, zep, zeq, zer, fa_0, fa_1, zes, bd_0, bd_2, zet, fd_1, zeu, Nat.zero_add, intT, tupT, encT, cellsT, ldT_0, ldT_1, ldT_4, faT_0, faT_1, faT_4, i_neqV, i_eqlV, Int.reduceBNe, c1, zds, f5, q1, lenTk]
    exact finish_ib _ _ _ _ _ _ _ _ _ (by first | (simp only [zfi, ↓reduceIte, Nat.reduceEqDiff]; done) | (simp only [zfi, ↓reduceIte, Nat.reduceEqDiff]; rfl)) (by first | (simp only [zfi, ↓reduceIte, Nat.reduceEqDiff]; done) | (simp only [zfi, ↓reduceIte, Nat.reduceEqDiff]; rfl)) rfl
/-! ### What is thrown -/
def errA (x s : List UInt8) : List AV := .str x :: cellsT (atomT s)
theorem errA_len (x s : List UInt8) : (errA x s).length = 7 := rfl
theorem bdE_2 (x s : List UInt8) : buildA Tryd.prog 33 [(0, .str x), (1, .agg (cellsT (atomT s)))] = some (.agg (errA x s)) := by
  simp only [buildA, zeroE, tkE, plE, Option.bind_some]; rfl
theorem st_Eg (s : St) (p k : Nat) (ys : List AV) (hl : ys.length = 7) : storeA Tryd.prog 33 s (.ptr p k 0) (.agg ys) = stT (s p) p k s ys := by
  simp only [storeA, settle, Option.bind_some, stT]
  cases h : s p with
  | mk t c => cases c <;> simp [eszE, hl]
theorem st_E2 (s : St) (p k : Nat) (x y : List UInt8) : storeA Tryd.prog 33 s (.ptr p k 0) (.agg (errA x y)) = stT (s p) p k s (errA x y) := st_Eg _ _ _ _ rfl
theorem stE_2 (t k p : Nat) (s : St) (x y : List UInt8) : stT ⟨t, .buf zErr⟩ p k s (errA x y) = if t = k then some (upd s p ⟨t, .buf (errA x y)⟩) else none := by
  simp [stT, splice, zErr, errA_len]
theorem ldE_g (t k : Nat) (ys : List AV) (hl : ys.length = 7) : ldE Tryd.prog 33 ⟨t, .buf ys⟩ k 0 = if t = k then some (.agg ys) else none := by
  rw [ldE_buf, cellsE_buf]
  by_cases h : t = k
  · simp [h, partA, shE, hl]
    exact List.take_of_length_le (by omega)
  · simp [h]
theorem finish_T3g (k : Bool) (xs : List Arg) (a p e : Nat) (u : T) (b q e' : Nat) (t : Nat) (v : Bool) (env : Env) (s : St) (os : List (List AV)) (ys : List AV) (hl : ys.length = 7) (ha : env a = .ptr p e 0) (hs : s p = ⟨e, .buf (cellsT u)⟩) (hb : env b = .ptr q e' 0) (hq : s q = ⟨e', .buf ys⟩) (hv : env t = .bool v) (ho : outsA s 0 xs = some os) :
    finishP Tryd.prog k xs #[.cell a 29, .cell b 33, .tmp t] env s = some (.tree (.tup [encT u, .agg ys, .bool v]), os) := by
  have hl1 : loadA Tryd.prog 29 s (env a) = some (.agg (cellsT u)) := by rw [ha, zem, hs, ldT_u, if_pos rfl]
  have hl2 : loadA Tryd.prog 33 s (env b) = some (.agg ys) := by rw [hb, zem, hq, ldE_g _ _ _ hl, if_pos rfl]
  simp [finishP, isTmpR, rvA, hl1, hl2, hv, settleL, settle, ho, encT]
def T0 : T := .mk 0 false .n [] [] 0 .n []
theorem bdT_00 : buildA Tryd.prog 29 [] = some (.agg (cellsT T0)) := bdT_
def sErrW : List UInt8 := [101, 114, 114, 111, 114]
def sBad : List UInt8 := [98, 97, 100, 97, 114, 103]
def sEl : List UInt8 := [101, 108, 101, 109, 101, 110, 116]
theorem hasEl : evalFn Tryd.prog cfg0 100000 20 19 [.tree (.str sErl), .tree (.str sEl), .tree (.int .i64 2)] = some (.tree (.bool true), [[], [], []]) := by kernel_rfl
theorem contEl : evalFn Tryd.prog cfg0 100000 20 21 [.tree (.sl throws 3 .tight), .tree (.str sEl)] = some (.tree (.bool false), [[], []]) := by kernel_rfl
set_option maxHeartbeats 4000000 in
theorem call2bad_eq (R d : Nat) (name : List UInt8) (t t' u : T) (h1 : evalFn Tryd.prog cfg0 R (d+1) 19 [.tree (.str sErl), .tree (.str name), .tree (.int .i64 2)] = some (.tree (.bool true), [[], [], []]))
    (h2 : evalFn Tryd.prog cfg0 R (d+1) 21 [.tree (.sl throws 3 .tight), .tree (.str name)] = some (.tree (.bool false), [[], []]))
    (h3 : evalFn Tryd.prog cfg0 R (d+1) 22 [.tree (.str name), .tree (.sl (cellsK [t, t']) 2 .tight)] = some (.tree (.tup [encT u, .bool false]), [[], []])) :
    evalFn Tryd.prog cfg0 R (d+2) 10 [.tree (.str sErl), .tree (.str name), .tree (.sl (cellsK [t, t']) 2 .tight)] = some (.tree (.tup [encT T0, .agg (errA sErrW sBad), .bool false]), [[], [], []]) := by
  rw [evalFn_goP _ Tryd.func10 (by unfold Tryd.f10; rfl) (by unfold Tryd.f10; decide) (Nat.le_of_ble_eq_true (by unfold Tryd.f10; rfl)) (by kernel_rfl)]
  have c1 := fun D st => callA_trees (cfg := cfg0) (d := D) (s := st) (f := 19) (vs := [.str sErl, .str name, .int .i64 2]) rfl h1
  have c2 := fun D st => callA_trees (cfg := cfg0) (d := D) (s := st) (f := 21) (vs := [.sl throws 3 .tight, .str name]) rfl h2
  have c3 := fun D st => callA_trees (cfg := cfg0) (d := D) (s := st) (f := 22) (vs := [.str name, .sl (cellsK [t, t']) 2 .tight]) rfl h3
  have c4 := fun D st => callA_trees (cfg := cfg0) (d := D) (s := st) (f := 20) (vs := [.str sBad]) rfl (atom_eq R d sBad)
  simp only [encT] at c3 c4
  simp only [throws] at c2
  simp only [sBad] at c4
  have e1 : ((2 : Nat) : Int) = 2 := rfl
  have w5 : (sErl == ([101, 114, 108, 97, 110, 103] : List UInt8)) = true := by decide
  have b2 := bdE_2 sErrW sBad
  simp only [sErrW, sBad] at b2
  have hst := fun st p k => st_E2 st p k sErrW sBad
  simp only [sErrW, sBad] at hst
  have hst2 := fun t k p st => stE_2 t k p st sErrW sBad
  simp only [sErrW, sBad] at hst2
  simp only [prune_seq, prune_cond, prune_block, prune_loop, prune_scope, prune_text, prune_skip, prune_ret, prune_exit, zaa, zab, zac, zad, zae, zaf, zag, zah, zai, zaj, zak, zal, zam, zan, zao, zap, zaq, zar, zas, zat, zau, zav, zaw, zax, zay, zaz, zba, zbb, zbc, zbd, zbe, zbf, zbg, zbh, zbi, zbj, zbk, zbl, zbm, zbn, zbo, zbp, zbq, Nat.reduceBEq, Bool.or_self, Bool.or_false, Bool.or_true, Bool.and_true, Bool.and_false, Bool.true_and, Bool.false_and, Option.isNone_none, Option.isNone_some, Option.isSome_some, Option.isSome_none, zbr, zbs, zbt, zbu, zbv, zbw, zbx, zby, zbz, zca, zcb, zcc, zcd, zce, zcf, zcg, zch, zci, zcj, zck, zcl, zcm, zcn, zco, zcp, zcq, zcr, own0, zcs, zct, zcu, zcv, zcw, zcx, zcy, zcz, zda, zdb, zdc, zdd, zde, zdf, zdg, zdh, zdi, zdj, zdk, zdl, zdm, zdn, zdo, zdp, zdq, zdr, zds, zdt, zdu, Option.getD_some, Option.getD_none, zfb, zfc, zfd, zfe, zff, zfg, zfh, zfi, Option.map_some, Option.map_none, Option.bind_some, List.map_cons, List.map_nil, List.cons_append, List.nil_append, ↓reduceIte, Nat.reduceEqDiff, Nat.reduceAdd, decide_true, decide_false, Bool.true_eq_false, Bool.false_eq_true, env0, List.getElem?_cons_zero, List.getElem?_cons_succ, zdv, zdw, zdx, zdy, zdz, zea, zeb, zec, ia22, ld31, zed, zee, zef, zeg, zeh, zei, zej, zek, zel, zem, zen, zeo, zep, zeq, zer, fa_0, fa_1, zes, bd_0, bd_2, zet, fd_1, zeu, Nat.zero_add, zev, List.toList_toArray, len9, ix9, zew, zex, zey, zez, zfa, zeroT, zeroE, lenTk, e1, i_eqlV, s_eqlS, w5, opA_three64, three64_str, c1, c2, c3, c4, unA_not', Bool.not_true, Bool.not_false, zds, ldT_u, bdT_00, b2, st_Tt, stT_6, hst, hst2]
  exact finish_T3g _ _ _ _ _ T0 _ _ _ _ _ _ _ _ (errA sErrW sBad) rfl (by first | (simp only [zfi, ↓reduceIte, Nat.reduceEqDiff]; done) | (simp only [zfi, ↓reduceIte, Nat.reduceEqDiff]; rfl)) (by first | (simp only [zfi, ↓reduceIte, Nat.reduceEqDiff]; done) | (simp only [zfi, ↓reduceIte, Nat.reduceEqDiff]; rfl)) (by first | (simp only [zfi, ↓reduceIte, Nat.reduceEqDiff]; done) | (simp only [zfi, ↓reduceIte, Nat.reduceEqDiff]; rfl)) (by first | (simp only [zfi, ↓reduceIte, Nat.reduceEqDiff]; done) | (simp only [zfi, ↓reduceIte, Nat.reduceEqDiff]; rfl)) (by first | (simp only [zfi, ↓reduceIte, Nat.reduceEqDiff]; done) | (simp only [zfi, ↓reduceIte, Nat.reduceEqDiff]; rfl)) rfl
theorem ldT_4K (t k : Nat) (kg : Gk) (us : List T) : ldE Tryd.prog 22 ⟨t, .buf (cellsT (tupT kg us))⟩ k 5 = if t = k then some (.sl (cellsK us) us.length (gr kg)) else none := ldT_4 _ _ _ _ _ _ _ _
set_option maxHeartbeats 8000000 in
theorem Two1_eq (R d : Nat) (hR : 100000 ≤ R) (v : Int) (h1 : -1000000 ≤ v) (h2 : v ≤ 1000000) (kg : Gk) (us : List T) (hl : us.length ≤ 1000000) : evalFn Tryd.prog cfg0 R (d+5) 58 [.tree (.int .i64 1), .tree (encT (intT v)), .tree (encT (tupT kg us))] = some (.tree (if 1 ≤ v ∧ v ≤ us.length then .tup [encT (us.getD (v.toNat - 1) T0), .bool true] else .tup [encT T0, .bool false]), [[], [], []]) := by
  rw [evalFn_go _ Tryd.func58 (by unfold Tryd.f58; rfl) (by unfold Tryd.f58; decide) (Nat.le_of_ble_eq_true (by unfold Tryd.f58; rfl)) (by kernel_rfl)]
  have c1 := fun D st => callA_trees (cfg := cfg0) (d := D) (s := st) (f := 36) (vs := [encT (intT v), encT (tupT kg us)]) rfl (bplace_eq R d hR v h1 h2 kg us hl)
  simp only [encT] at c1
  by_cases q : 1 ≤ v ∧ v ≤ (us.length : Int)
  · rw [if_pos q]
    rw [decide_eq_true q.1, decide_eq_true q.2] at c1
    have hi : v.toNat - 1 < us.length := by omega
    have i0 := fun st => ia_K st us (gr kg) (v.toNat - 1) hi
    have hd : us.drop (v.toNat - 1) = us.getD (v.toNat - 1) T0 :: us.drop (v.toNat - 1 + 1) := by
      rw [List.drop_eq_getElem_cons hi, List.getD_eq_getElem?_getD, List.getElem?_eq_getElem hi]; rfl
    rw [hd, show ((v.toNat - 1 : Nat) : Int) = v - 1 by omega] at i0
    have l0 := fun st => ld_K st (us.getD (v.toNat - 1) T0) (us.drop (v.toNat - 1 + 1))
    simp only [encT] at l0
    have lt := fun t k => ldT_4K t k kg us
    simp only [zaa, zab, zac, zad, zae, zaf, zag, zah, zai, zaj, zak, zal, zam, zan, zao, zap, zaq, zar, zas, zat, zau, zav, zaw, zax, zay, zaz, zba, zbb, zbc, zbd, zbe, zbf, zbg, zbh, zbi, zbj, zbk, zbl, zbm, zbn, zbo, zbp, zbq, Nat.reduceBEq, Bool.or_self, Bool.or_false, Bool.or_true, Bool.and_true, Bool.and_false, Bool.true_and, Bool.false_and, Option.isNone_none, Option.isNone_some, Option.isSome_some, Option.isSome_none, zbr, zbs, zbt, zbu, zbv, zbw, zbx, zby, zbz, zca, zcb, zcc, zcd, zce, zcf, zcg, zch, zci, zcj, zck, zcl, zcm, zcn, zco, zcp, zcq, zcr, own0, zcs, zct, zcu, zcv, zcw, zcx, zcy, zcz, zda, zdb, zdc, zdd, zde, zdf, zdg, zdh, zdi, zdj, zdk, zdl, zdm, zdn, zdo, zdp, zdq, zdr, zds, zdt, zdu, Option.getD_some, Option.getD_none, zfb, zfc, zfd, zfe, zff, zfg, zfh, zfi, Option.map_some, Option.map_none, Option.bind_some, List.map_cons, List.map_nil, List.cons_append, List.nil_append, ↓reduceIte, Nat.reduceEqDiff, Nat.reduceAdd, decide_true, decide_false, Bool.true_eq_false, Bool.false_eq_true, env0, List.getElem?_cons_zero, List.getElem?_cons_succ, zdv, zdw, zdx, zdy, zdz, zea, zeb, zec, ia22, ld31, zed, zee, zef, zeg, zeh, zei, zej, zek, zel, zem, zen, zeo, zep, zeq, zer, fa_0, fa_1, zes, bd_0, bd_2, zet, fd_1, zeu, Nat.zero_add, encT, zeroT, ldT_u, c1, Bool.and_self, zds, i_eqlV, Int.reduceBEq, faT_4, Nat.reduceAdd, lt, i0, l0, st_Tt, stT_6]
    exact finish_T2 _ _ _ _ _ (us.getD (v.toNat - 1) T0) _ _ _ _ _ (by first | (simp only [zfi, ↓reduceIte, Nat.reduceEqDiff]; done) | (simp only [zfi, ↓reduceIte, Nat.reduceEqDiff]; rfl)) (by first | (simp only [zfi, ↓reduceIte, Nat.reduceEqDiff]; done) | (simp only [zfi, ↓reduceIte, Nat.reduceEqDiff]; rfl)) (by first | (simp only [zfi, ↓reduceIte, Nat.reduceEqDiff]; done) | (simp only [zfi, ↓reduceIte, Nat.reduceEqDiff]; rfl)) rfl
  · rw [if_neg q]
    have hq : (decide (1 ≤ v) && decide (v ≤ (us.length : Int))) = false := by
      rw [← Bool.decide_and]; exact decide_eq_false q
    rw [hq] at c1
    simp only [zaa, zab, zac, zad, zae, zaf, zag, zah, zai, zaj, zak, zal, zam, zan, zao, zap, zaq, zar, zas, zat, zau, zav, zaw, zax, zay, zaz, zba, zbb, zbc, zbd, zbe, zbf, zbg, zbh, zbi, zbj, zbk, zbl, zbm, zbn, zbo, zbp, zbq, Nat.reduceBEq, Bool.or_self, Bool.or_false, Bool.or_true, Bool.and_true, Bool.and_false, Bool.true_and, Bool.false_and, Option.isNone_none, Option.isNone_some, Option.isSome_some, Option.isSome_none, zbr, zbs, zbt, zbu, zbv, zbw, zbx, zby, zbz, zca, zcb, zcc, zcd, zce, zcf, zcg, zch, zci, zcj, zck, zcl, zcm, zcn, zco, zcp, zcq, zcr, own0, zcs, zct, zcu, zcv, zcw, zcx, zcy, zcz, zda, zdb, zdc, zdd, zde, zdf, zdg, zdh, zdi, zdj, zdk, zdl, zdm, zdn, zdo, zdp, zdq, zdr, zds, zdt, zdu, Option.getD_some, Option.getD_none, zfb, zfc, zfd, zfe, zff, zfg, zfh, zfi, Option.map_some, Option.map_none, Option.bind_some, List.map_cons, List.map_nil, List.cons_append, List.nil_append, ↓reduceIte, Nat.reduceEqDiff, Nat.reduceAdd, decide_true, decide_false, Bool.true_eq_false, Bool.false_eq_true, env0, List.getElem?_cons_zero, List.getElem?_cons_succ, zdv, zdw, zdx, zdy, zdz, zea, zeb, zec, ia22, ld31, zed, zee, zef, zeg, zeh, zei, zej, zek, zel, zem, zen, zeo, zep, zeq, zer, fa_0, fa_1, zes, bd_0, bd_2, zet, fd_1, zeu, Nat.zero_add, encT, zeroT, ldT_u, c1, zds, i_eqlV, Int.reduceBEq, bdT_00, st_Tt, stT_6]
    exact finish_T2 _ _ _ _ _ T0 _ _ _ _ _ (by first | (simp only [zfi, ↓reduceIte, Nat.reduceEqDiff]; done) | (simp only [zfi, ↓reduceIte, Nat.reduceEqDiff]; rfl)) (by first | (simp only [zfi, ↓reduceIte, Nat.reduceEqDiff]; done) | (simp only [zfi, ↓reduceIte, Nat.reduceEqDiff]; rfl)) (by first | (simp only [zfi, ↓reduceIte, Nat.reduceEqDiff]; done) | (simp only [zfi, ↓reduceIte, Nat.reduceEqDiff]; rfl)) rfl
theorem twoEl_eq (R d : Nat) (a b u : T) (v : Bool) (h : evalFn Tryd.prog cfg0 R d 58 [.tree (.int .i64 1), .tree (encT a), .tree (encT b)] = some (.tree (.tup [encT u, .bool v]), [[], [], []])) : evalFn Tryd.prog cfg0 R (d+1) 35 [.tree (.str sEl), .tree (encT a), .tree (encT b)] = some (.tree (.tup [encT u, .bool v]), [[], [], []]) := by
  rw [evalFn_go _ Tryd.func35 (by unfold Tryd.f35; rfl) (by unfold Tryd.f35; decide) (Nat.le_of_ble_eq_true (by unfold Tryd.f35; rfl)) (by kernel_rfl)]
  have w0 : (sEl == ([101, 108, 101, 109, 101, 110, 116] : List UInt8)) = true := by decide
  have c := fun D st => callA_trees (cfg := cfg0) (d := D) (s := st) (f := 58) (vs := [.int .i64 1, encT a, encT b]) rfl h
  simp only [encT] at c
  simp only [zaa, zab, zac, zad, zae, zaf, zag, zah, zai, zaj, zak, zal, zam, zan, zao, zap, zaq, zar, zas, zat, zau, zav, zaw, zax, zay, zaz, zba, zbb, zbc, zbd, zbe, zbf, zbg, zbh, zbi, zbj, zbk, zbl, zbm, zbn, zbo, zbp, zbq, Nat.reduceBEq, Bool.or_self, Bool.or_false, Bool.or_true, Bool.and_true, Bool.and_false, Bool.true_and, Bool.false_and, Option.isNone_none, Option.isNone_some, Option.isSome_some, Option.isSome_none, zbr, zbs, zbt, zbu, zbv, zbw, zbx, zby, zbz, zca, zcb, zcc, zcd, zce, zcf, zcg, zch, zci, zcj, zck, zcl, zcm, zcn, zco, zcp, zcq, zcr, own0, zcs, zct, zcu, zcv, zcw, zcx, zcy, zcz, zda, zdb, zdc, zdd, zde, zdf, zdg, zdh, zdi, zdj, zdk, zdl, zdm, zdn, zdo, zdp, zdq, zdr, zds, zdt, zdu, Option.getD_some, Option.getD_none, zfb, zfc, zfd, zfe, zff, zfg, zfh, zfi, Option.map_some, Option.map_none, Option.bind_some, List.map_cons, List.map_nil, List.cons_append, List.nil_append, ↓reduceIte, Nat.reduceEqDiff, Nat.reduceAdd, decide_true, decide_false, Bool.true_eq_false, Bool.false_eq_true, env0, List.getElem?_cons_zero, List.getElem?_cons_succ, zdv, zdw, zdx, zdy, zdz, zea, zeb, zec, ia22, ld31, zed, zee, zef, zeg, zeh, zei, zej, zek, zel, zem, zen, zeo, zep, zeq, zer, fa_0, fa_1, zes, bd_0, bd_2, zet, fd_1, zeu, Nat.zero_add, zev, List.toList_toArray, len9, ix9, zew, zex, zey, zez, zfa, zeroT, encT, ldT_u, s_eqlS, w0, c, zds, st_Tt, stT_6]
  exact finish_T2 _ _ _ _ _ u _ _ _ _ _ (by first | (simp only [zfi, ↓reduceIte, Nat.reduceEqDiff]; done) | (simp only [zfi, ↓reduceIte, Nat.reduceEqDiff]; rfl)) (by first | (simp only [zfi, ↓reduceIte, Nat.reduceEqDiff]; done) | (simp only [zfi, ↓reduceIte, Nat.reduceEqDiff]; rfl)) (by first | (simp only [zfi, ↓reduceIte, Nat.reduceEqDiff]; done) | (simp only [zfi, ↓reduceIte, Nat.reduceEqDiff]; rfl)) rfl
end Go.Ab

/- The run of BifTuples (CFG2): slices that lie in cells keep their room; slices.Clone gives a row that may be written. setelement. Conditions: a place in range. -/
namespace Go.Ab
open Go.Proofs
set_option maxRecDepth 100000
set_option linter.unusedSimpArgs false

def three2 : List Arg → Bool
  | [_, _, .tree (.sl _ 3 _)] => true
  | [_, .tree (.sl _ 3 _)] => true
  | _ => false
/-- What is run here; all else is run as ever. -/
def run2 (f : FuncId) (xs : List Arg) : Bool := f == 4 || f == 37 || ((f == 10 || f == 22) && three2 xs)
noncomputable def prim2 (f : FuncId) (xs : List Arg) : Option Out := match run2 f xs with
  | true => none
  | false => evalFn Tryd.prog cfg0 9223372036854775808 6190 f xs
noncomputable def cfg2 : Cfg := ⟨fun _ _ => false, fun f => f == 37, prim2, fun p => p == "=outright.go:18" || p == "slices.go:362" || p == "#bif.go:203"⟩
theorem own2 (p : String) : cfg2.ownAt p = (p == "=outright.go:18" || p == "slices.go:362" || p == "#bif.go:203") := rfl
theorem keep2 (f : FuncId) : cfg2.keep f = (f == 37) := rfl
theorem ev2 {n d : Nat} {f : FuncId} {xs : List Arg} {o : Out} (h1 : run2 f xs = false) (h : evalFn Tryd.prog cfg0 9223372036854775808 6190 f xs = some o) : evalFn Tryd.prog cfg2 n (d+1) f xs = some o := by
  have hc : cfg2.prim = prim2 := rfl
  have hp : prim2 f xs = some o := by unfold prim2; rw [h1]; exact h
  rw [evalFn]
  simp only [hc, hp]

/-! ### slices.Clone -/
theorem appendO_clone (d : Nat) (s : St) (us : List T) (g : Grip) (h1 : us ≠ []) (h2 : us.length ≤ 1000000) : appendO Tryd.prog #[22, 22] d s (.sl [] 0 .tight) (.sl (cellsK us) us.length g) = some (.own d ((s d).t + 1) 0 us.length 6, upd s d ⟨(s d).t + 1, .buf (cellsK us)⟩) := by
  have h3 : 1 ≤ us.length := by cases us with
    | nil => exact absurd rfl h1
    | cons => simp
  have hm : moreA Tryd.prog 29 6 (some 22) s (.sl (cellsK us) us.length g) = some (cellsK us, us.length) := by
    simp only [moreA, Option.map_some, tkTk, cellsK_len, ↓reduceIte]
  simp only [appendO, List.getElem?_toArray, List.getElem?_cons_zero, List.getElem?_cons_succ, Option.map_some, tkTk, eszT, Option.bind_some, hm, zl28, ↓reduceIte, or_true, true_and]
  rw [if_pos ⟨h3, roomJ us.length (by omega)⟩]
theorem k_eqlN (us : List T) (h1 : us ≠ []) : binA Tryd.prog .eql 22 (.sl (cellsK us) us.length .loose) (.sl [] 0 .nil) = some (.bool false) := by
  have h3 : 0 < us.length := List.length_pos_iff.mpr h1
  simp only [binA, tkTk, nilA, h3, if_true, eqA, Option.map_some]
theorem opA_bs0 (call : FuncId → List Arg → Option Out) (q : Bool) (d : Option Tmp) (ty : TypeId) (pos : String) (af : Array Edge) (g : Option (Nat × Bool)) (t : Nat) (env : Env) (s : St) :
    opA Tryd.prog cfg2 call q ⟨d, .buildSlice 22 0 #[], ty, pos, af, g⟩ t env s = some (.sl [] 0 .tight, s) := by
  simp only [opA, tkTk, eszT, zeroT, Option.bind_some, List.map_nil]
  rfl
theorem clone2_eq (n d : Nat) (us : List T) (h1 : us ≠ []) (h2 : us.length ≤ 1000000) : evalFn Tryd.prog cfg2 n (d+1) 37 [.tree (.sl (cellsK us) us.length .loose)] = some (.own (cellsK us) us.length 6, [[]]) := by
  rw [evalFn_go _ Tryd.func37 (by unfold Tryd.f37; rfl) (by unfold Tryd.f37; decide) (Nat.le_of_ble_eq_true (by unfold Tryd.f37; rfl)) (by kernel_rfl)]
  have c1 := fun d s => appendO_clone d s us .loose h1 h2
  have c2 := k_eqlN us h1
  simp only [zaa, zab, zac, zad, zae, zaf, zag, zah, zai, zaj, zak, zal, zam, zan, zao, zap, zaq, zar, zas, zat, zau, zav, zaw, zax, zay, zaz, zba, zbb, zbc, zbd, zbe, zbf, zbg, zbh, zbi, zbj, zbk, zbl, zbm, zbn, keep2, zbp, zbq, Nat.reduceBEq, Bool.or_self, Bool.or_false, Bool.or_true, Bool.and_true, Bool.and_false, Bool.true_and, Bool.false_and, Option.isNone_none, Option.isNone_some, Option.isSome_some, Option.isSome_none, zbr, zbs, zbt, zbu, zbv, zbw, zbx, zby, zbz, zca, zcb, zcc, zcd, zce, zcf, zcg, zch, zci, zcj, zck, zcl, zcm, zcn, zco, zcp, zcq, zcr, own2, String.reduceAppend, String.reduceBEq, Bool.or_false, Bool.or_true, Bool.or_self, zcs, zct, zcu, zcv, zcw, zcx, zcy, zcz, zda, zdb, zdc, zdd, zde, zdf, zdg, zdh, zdi, zdj, zdk, zdl, zdm, zdn, zdo, zdp, zdq, zdr, zds, zdt, zdu, Option.getD_some, Option.getD_none, zfb, zfc, zfd, zfe, zff, zfg, zfh, zfi, Option.map_some, Option.map_none, Option.bind_some, List.map_cons, List.map_nil, List.cons_append, List.nil_append, ↓reduceIte, Nat.reduceEqDiff, Nat.reduceAdd, decide_true, decide_false, Bool.true_eq_false, Bool.false_eq_true, env0, List.getElem?_cons_zero, List.getElem?_cons_succ, zdv, zdw, zdx, zdy, zdz, zea, zeb, zec, ia22, ld31, zed, zee, zef, zeg, zeh, zei, zej, zek, zel, zem, zen, zeo, zep, zeq, zer, fa_0, fa_1, zes, bd_0, bd_2, zet, fd_1, zeu, Nat.zero_add, c2, opA_bs0, c1]
  simp [finishP_t1, finish, finish1, cellsK_len, outsA]
end Go.Ab

/- bif.answer of three arguments, bif.Call of setelement (CFG2). Conditions: numbers in range. -/
namespace Go.Ab
open Go.Proofs
set_option maxRecDepth 100000
set_option linter.unusedSimpArgs false

theorem callA_ownR {call : FuncId → List Arg → Option Out} {d : Nat} {s : St} {f : FuncId} {v : AV} {xs : List AV} {len e : Nat} (ht : isTree v = true) (hc : call f [.tree v] = some (.own xs len e, [[]])) : callA cfg2 call d s f [v] = some (.own d ((s d).t + 1) 0 len e, upd s d ⟨(s d).t + 1, .buf xs⟩) := by
  have h1 : argsA cfg2 f s 0 [v] = some [.tree v] := argsA_trees f s [v] 0 (by simpa using ht)
  have h2 : givesL [v] [Arg.tree v] = [] := givesL_trees [v]
  have h3 : lendsL [v] [Arg.tree v] = [] := lendsL_trees [v] (by simpa using ht)
  have h4 : backA s [v] [Arg.tree v] [[]] = some s := backA_trees s [v]
  simp only [callA, h1, Option.bind_some, h2, h3, List.nodup_nil, List.not_mem_nil, false_implies, implies_true, and_self, if_true, hc, List.foldl_nil, ite_self, h4, resA]
theorem faR_K (s : St) (kg : Gk) (us : List T) (r : List T) : fieldAddrA Tryd.prog 29 s (.rptr (cellsK (tupT kg us :: r))) 4 = some (.rptr (.sl (cellsK us) us.length (gr kg) :: cellsK r)) := by
  simp only [fieldAddrA, fdT4, eszTk]
  rfl
theorem ldR_K (s : St) (xs : List AV) (n : Nat) (g : Grip) (r : List AV) : loadA Tryd.prog 22 s (.rptr (.sl xs n g :: r)) = some (.sl xs n g) := by
  simp only [loadA, partA, shTk]
  rfl
theorem buildO_tup (s : St) (p t : Nat) (us : List T) (hs : s p = ⟨t, .buf (cellsK us)⟩) : buildO Tryd.prog 29 s [(0, .int .i64 5), (4, .own p t 0 us.length 6)] = some (.agg (cellsT (tupT .l us)), upd s p ⟨t, .frz (cellsK us)⟩) := by
  have e : ((cellsK us).drop 0).take (us.length * 6) = cellsK us := by rw [List.drop_zero, List.take_of_length_le (by rw [cellsK_len]; exact Nat.le_refl _)]
  simp only [buildO, settleP, settle, Option.bind_some, Option.map_some, hs]
  rw [if_pos ⟨trivial, by rw [cellsK_len]; omega⟩]
  simp only [Option.bind_some, Option.map_some, e, zeroT, tkT, plT]
  rfl
def sSet : List UInt8 := [115, 101, 116, 101, 108, 101, 109, 101, 110, 116]
theorem ia_3a (st : St) (a b c : T) : indexAddrA Tryd.prog 22 st (.sl (cellsK [a, b, c]) 3 .tight) (.int .i64 0) = some (.rptr (cellsK [a, b, c])) := ia_K st [a, b, c] .tight 0 (by simp)
theorem ia_3b (st : St) (a b c : T) : indexAddrA Tryd.prog 22 st (.sl (cellsK [a, b, c]) 3 .tight) (.int .i64 1) = some (.rptr (cellsK [b, c])) := ia_K st [a, b, c] .tight 1 (by simp)
theorem ia_3c (st : St) (a b c : T) : indexAddrA Tryd.prog 22 st (.sl (cellsK [a, b, c]) 3 .tight) (.int .i64 2) = some (.rptr (cellsK [c])) := ia_K st [a, b, c] .tight 2 (by simp)
theorem ld_K3 (st : St) (t : T) (r : List T) : loadA Tryd.prog 29 st (.rptr (cellsK (t :: r))) = some (.agg (cellsT t)) := ld_K st t r
theorem lenTk3 (s : St) (xs : List AV) (g : Grip) : lenA Tryd.prog 22 s (.sl xs 3 g) = some (.int .i64 3) := lenTk s xs 3 g
set_option maxHeartbeats 8000000 in
theorem answer3_bad (n d : Nat) (name : List UInt8) (v : Int) (h1 : -1000000 ≤ v) (h2 : v ≤ 1000000) (kg : Gk) (us : List T) (hl : us.length ≤ 1000) (w : T) (hq : ¬ (1 ≤ v ∧ v ≤ us.length)) :
    evalFn Tryd.prog cfg2 n (d+2) 22 [.tree (.str name), .tree (.sl (cellsK [intT v, tupT kg us, w]) 3 .tight)] = some (.tree (.tup [encT T0, .bool false]), [[], []]) := by
  rw [evalFn_go _ Tryd.func22 (by unfold Tryd.f22; rfl) (by unfold Tryd.f22; decide) (Nat.le_of_ble_eq_true (by unfold Tryd.f22; rfl)) (by kernel_rfl)]
  have c1 := callQ_trees (f := 36) (vs := [encT (intT v), encT (tupT kg us)]) rfl (ev2 (n := n) (d := d) rfl (bplace_eq 9223372036854775808 6186 (by decide) v h1 h2 kg us (by omega)))
  have hq : (decide (1 ≤ v) && decide (v ≤ (us.length : Int))) = false := by
    rw [← Bool.decide_and]; exact decide_eq_false hq
  rw [hq] at c1
  simp only [encT] at c1
  simp only [zaa, zab, zac, zad, zae, zaf, zag, zah, zai, zaj, zak, zal, zam, zan, zao, zap, zaq, zar, zas, zat, zau, zav, zaw, zax, zay, zaz, zba, zbb, zbc, zbd, zbe, zbf, zbg, zbh, zbi, zbj, zbk, zbl, zbm, zbn, keep2, zbp, zbq, Nat.reduceBEq, Bool.or_self, Bool.or_false, Bool.or_true, Bool.and_true, Bool.and_false, Bool.true_and, Bool.false_and, Option.isNone_none, Option.isNone_some, Option.isSome_some, Option.isSome_none, zbr, zbs, zbt, zbu, zbv, zbw, zbx, zby, zbz, zca, zcb, zcc, zcd, zce, zcf, zcg, zch, zci, zcj, zck, zcl, zcm, zcn, zco, zcp, zcq, zcr, own2, String.reduceAppend, String.reduceBEq, Bool.or_false, Bool.or_true, Bool.or_self, zcs, zct, zcu, zcv, zcw, zcx, zcy, zcz, zda, zdb, zdc, zdd, zde, zdf, zdg, zdh, zdi, zdj, zdk, zdl, zdm, zdn, zdo, zdp, zdq, zdr, zds, zdt, zdu, Option.getD_some, Option.getD_none, zfb, zfc, zfd, zfe, zff, zfg, zfh, zfi, Option.map_some, Option.map_none, Option.bind_some, List.map_cons, List.map_nil, List.cons_append, List.nil_append, ↓reduceIte, Nat.reduceEqDiff, Nat.reduceAdd, decide_true, decide_false, Bool.true_eq_false, Bool.false_eq_true, env0, List.getElem?_cons_zero, List.getElem?_cons_succ, zdv, zdw, zdx, zdy, zdz, zea, zeb, zec, ia22, ld31, zed, zee, zef, zeg, zeh, zei, zej, zek, zel, zem, zen, zeo, zep, zeq, zer, fa_0, fa_1, zes, bd_0, bd_2, zet, fd_1, zeu, Nat.zero_add, zeroT, lenTk3, i_eqlV, Int.reduceBEq, ia_3a, ia_3b, ld_K3, c1, zds, unA_not', Bool.not_false, bdT_00, st_Tt, stT_6]
  exact finish_T2 _ _ _ _ _ T0 _ _ _ _ _ (by first | (simp only [zfi, ↓reduceIte, Nat.reduceEqDiff]; done) | (simp only [zfi, ↓reduceIte, Nat.reduceEqDiff]; rfl)) (by first | (simp only [zfi, ↓reduceIte, Nat.reduceEqDiff]; done) | (simp only [zfi, ↓reduceIte, Nat.reduceEqDiff]; rfl)) (by first | (simp only [zfi, ↓reduceIte, Nat.reduceEqDiff]; done) | (simp only [zfi, ↓reduceIte, Nat.reduceEqDiff]; rfl)) rfl
set_option maxHeartbeats 8000000 in
theorem answer3_ok (n d : Nat) (name : List UInt8) (v : Int) (us : List T) (hl : us.length ≤ 1000) (w : T) (hq : 1 ≤ v ∧ v ≤ us.length) :
    evalFn Tryd.prog cfg2 n (d+2) 22 [.tree (.str name), .tree (.sl (cellsK [intT v, tupT .l us, w]) 3 .tight)] = some (.tree (.tup [encT (tupT .l (us.set (v.toNat - 1) w)), .bool true]), [[], []]) := by
  rw [evalFn_go _ Tryd.func22 (by unfold Tryd.f22; rfl) (by unfold Tryd.f22; decide) (Nat.le_of_ble_eq_true (by unfold Tryd.f22; rfl)) (by kernel_rfl)]
  have c1 := callQ_trees (f := 36) (vs := [encT (intT v), encT (tupT .l us)]) rfl (ev2 (n := n) (d := d) rfl (bplace_eq 9223372036854775808 6186 (by decide) v (by omega) (by omega) .l us (by omega)))
  rw [decide_eq_true hq.1, decide_eq_true hq.2, Bool.and_self] at c1
  have hne : us ≠ [] := fun h => by rw [h] at hq; simp at hq; omega
  have c2 := fun D st => callA_ownR (d := D) (s := st) (f := 37) (v := .sl (cellsK us) us.length .loose) rfl (clone2_eq n d us hne (by omega))
  have hi : v.toNat - 1 < us.length := by omega
  have e1 : v - 1 = ((v.toNat - 1 : Nat) : Int) := by omega
  have q1 : (0 : Int) ≤ ((v.toNat - 1 : Nat) : Int) := by omega
  have q2 : ((v.toNat - 1 : Nat) : Int) < (us.length : Int) := by omega
  rw [e1] at c1
  have gl : gr .l = .loose := rfl
  have bo := fun s p t hs => buildO_tup s p t (us.set (v.toNat - 1) w) hs
  rw [List.length_set] at bo
  simp only [encT] at c1
  simp only [zaa, zab, zac, zad, zae, zaf, zag, zah, zai, zaj, zak, zal, zam, zan, zao, zap, zaq, zar, zas, zat, zau, zav, zaw, zax, zay, zaz, zba, zbb, zbc, zbd, zbe, zbf, zbg, zbh, zbi, zbj, zbk, zbl, zbm, zbn, keep2, zbp, zbq, Nat.reduceBEq, Bool.or_self, Bool.or_false, Bool.or_true, Bool.and_true, Bool.and_false, Bool.true_and, Bool.false_and, Option.isNone_none, Option.isNone_some, Option.isSome_some, Option.isSome_none, zbr, zbs, zbt, zbu, zbv, zbw, zbx, zby, zbz, zca, zcb, zcc, zcd, zce, zcf, zcg, zch, zci, zcj, zck, zcl, zcm, zcn, zco, zcp, zcq, zcr, own2, String.reduceAppend, String.reduceBEq, Bool.or_false, Bool.or_true, Bool.or_self, zcs, zct, zcu, zcv, zcw, zcx, zcy, zcz, zda, zdb, zdc, zdd, zde, zdf, zdg, zdh, zdi, zdj, zdk, zdl, zdm, zdn, zdo, zdp, zdq, zdr, zds, zdt, zdu, Option.getD_some, Option.getD_none, zfb, zfc, zfd, zfe, zff, zfg, zfh, zfi, Option.map_some, Option.map_none, Option.bind_some, List.map_cons, List.map_nil, List.cons_append, List.nil_append, ↓reduceIte, Nat.reduceEqDiff, Nat.reduceAdd, decide_true, decide_false, Bool.true_eq_false, Bool.false_eq_true, env0, List.getElem?_cons_zero, List.getElem?_cons_succ, zdv, zdw, zdx, zdy, zdz, zea, zeb, zec, ia22, ld31, zed, zee, zef, zeg, zeh, zei, zej, zek, zel, zem, zen, zeo, zep, zeq, zer, fa_0, fa_1, zes, bd_0, bd_2, zet, fd_1, zeu, Nat.zero_add, zeroT, lenTk3, i_eqlV, Int.reduceBEq, ia_3a, ia_3b, ia_3c, ld_K3, c1, zds, unA_not', Bool.not_true, faR_K, gl, ldR_K, c2, iaO, cellsE_buf, Option.isSome_some, q1, q2, and_self, Int.toNat_natCast, stO, stOE_K, hi, bo, st_Tt, stT_6]
  exact finish_T2 _ _ _ _ _ (tupT .l (us.set (v.toNat - 1) w)) _ _ _ _ _ (by first | (simp only [zfi, ↓reduceIte, Nat.reduceEqDiff]; done) | (simp only [zfi, ↓reduceIte, Nat.reduceEqDiff]; rfl)) (by first | (simp only [zfi, ↓reduceIte, Nat.reduceEqDiff]; done) | (simp only [zfi, ↓reduceIte, Nat.reduceEqDiff]; rfl)) (by first | (simp only [zfi, ↓reduceIte, Nat.reduceEqDiff]; done) | (simp only [zfi, ↓reduceIte, Nat.reduceEqDiff]; rfl)) rfl
end Go.Ab

/- bif.Call of setelement (CFG2). Conditions: numbers in range. -/
namespace Go.Ab
open Go.Proofs
set_option maxRecDepth 100000
set_option linter.unusedSimpArgs false

theorem m2 {f : FuncId} {xs : List Arg} {o : Out} (h : evalFn Tryd.prog cfg0 100000 20 f xs = some o) : evalFn Tryd.prog cfg0 9223372036854775808 6190 f xs = some o := evalFn_mono (by decide) 20 6190 (by decide) _ _ _ h
theorem hasSet : evalFn Tryd.prog cfg0 100000 20 19 [.tree (.str sErl), .tree (.str sSet), .tree (.int .i64 3)] = some (.tree (.bool true), [[], [], []]) := by kernel_rfl
theorem contSet : evalFn Tryd.prog cfg0 100000 20 21 [.tree (.sl throws 3 .tight), .tree (.str sSet)] = some (.tree (.bool false), [[], []]) := by kernel_rfl
theorem opA_three64c (call : FuncId → List Arg → Option Out) (q : Bool) (d : Option Tmp) (ty : TypeId) (pos : String) (af : Array Edge) (g : Option (Nat × Bool)) (t : Nat) (env : Env) (s : St) (x1 x2 x3 : Operand) :
    opA Tryd.prog cfg2 call q ⟨d, .buildSlice 53 3 #[(0, x1), (1, x2), (2, x3)], ty, pos, af, g⟩ t env s = (three64 (ev env x1) (ev env x2) (ev env x3)).map (·, s) := by
  rw [opA_bs]
  simp only [tk64, esz9, zero9, Option.bind_some, List.map_cons, List.map_nil]
  rfl
set_option maxHeartbeats 4000000 in
theorem call3_ok (n d : Nat) (a b c u : T) (h3 : evalFn Tryd.prog cfg2 n (d+1) 22 [.tree (.str sSet), .tree (.sl (cellsK [a, b, c]) 3 .tight)] = some (.tree (.tup [encT u, .bool true]), [[], []])) (h5 : nodT u ≤ 2000) :
    evalFn Tryd.prog cfg2 n (d+2) 10 [.tree (.str sErl), .tree (.str sSet), .tree (.sl (cellsK [a, b, c]) 3 .tight)] = some (.tree (.tup [encT u, .agg zErr, .bool true]), [[], [], []]) := by
  rw [evalFn_goP _ Tryd.func10 (by unfold Tryd.f10; rfl) (by unfold Tryd.f10; decide) (Nat.le_of_ble_eq_true (by unfold Tryd.f10; rfl)) (by kernel_rfl)]
  have c1 := fun D st => callA_trees (cfg := cfg2) (d := D) (s := st) (f := 19) (vs := [.str sErl, .str sSet, .int .i64 3]) rfl (ev2 (n := n) (d := d) rfl (m2 hasSet))
  have c2 := fun D st => callA_trees (cfg := cfg2) (d := D) (s := st) (f := 21) (vs := [.sl throws 3 .tight, .str sSet]) rfl (ev2 (n := n) (d := d) rfl (m2 contSet))
  have c3 := fun D st => callA_trees (cfg := cfg2) (d := D) (s := st) (f := 22) (vs := [.str sSet, .sl (cellsK [a, b, c]) 3 .tight]) rfl h3
  have c4 := fun D st => callA_trees (cfg := cfg2) (d := D) (s := st) (f := 23) (vs := [encT u]) rfl (ev2 (n := n) (d := d) rfl (evalFn_mono (show 1000000 ≤ 9223372036854775808 by decide) 6190 6190 (Nat.le_refl _) _ _ _ (tNodes_eq 1000000 (Nat.le_refl _) 6190 u (by have := ht_nod u; omega) (by omega))))
  simp only [encT] at c3 c4
  simp only [throws] at c2
  have w5 : (sErl == ([101, 114, 108, 97, 110, 103] : List UInt8)) = true := by decide
  have q1 : ¬ ((nodT u : Int) > 2000) := by omega
  simp only [prune_seq, prune_cond, prune_block, prune_loop, prune_scope, prune_text, prune_skip, prune_ret, prune_exit, zaa, zab, zac, zad, zae, zaf, zag, zah, zai, zaj, zak, zal, zam, zan, zao, zap, zaq, zar, zas, zat, zau, zav, zaw, zax, zay, zaz, zba, zbb, zbc, zbd, zbe, zbf, zbg, zbh, zbi, zbj, zbk, zbl, zbm, zbn, keep2, zbp, zbq, Nat.reduceBEq, Bool.or_self, Bool.or_false, Bool.or_true, Bool.and_true, Bool.and_false, Bool.true_and, Bool.false_and, Option.isNone_none, Option.isNone_some, Option.isSome_some, Option.isSome_none, zbr, zbs, zbt, zbu, zbv, zbw, zbx, zby, zbz, zca, zcb, zcc, zcd, zce, zcf, zcg, zch, zci, zcj, zck, zcl, zcm, zcn, zco, zcp, zcq, zcr, own2, String.reduceAppend, String.reduceBEq, Bool.or_false, Bool.or_true, Bool.or_self, zcs, zct, zcu, zcv, zcw, zcx, zcy, zcz, zda, zdb, zdc, zdd, zde, zdf, zdg, zdh, zdi, zdj, zdk, zdl, zdm, zdn, zdo, zdp, zdq, zdr, zds, zdt, zdu, Option.getD_some, Option.getD_none, zfb, zfc, zfd, zfe, zff, zfg, zfh, zfi, Option.map_some, Option.map_none, Option.bind_some, List.map_cons, List.map_nil, List.cons_append, List.nil_append, ↓reduceIte, Nat.reduceEqDiff, Nat.reduceAdd, decide_true, decide_false, Bool.true_eq_false, Bool.false_eq_true, env0, List.getElem?_cons_zero, List.getElem?_cons_succ, zdv, zdw, zdx, zdy, zdz, zea, zeb, zec, ia22, ld31, zed, zee, zef, zeg, zeh, zei, zej, zek, zel, zem, zen, zeo, zep, zeq, zer, fa_0, fa_1, zes, bd_0, bd_2, zet, fd_1, zeu, Nat.zero_add, zev, List.toList_toArray, len9, ix9, zew, zex, zey, zez, zfa, zeroT, zeroE, lenTk3, i_eqlV, s_eqlS, w5, opA_three64c, three64_str, c1, c2, c3, c4, unA_not', Bool.not_true, zds, q1, ldT_u, bdE_, st_Tt, stT_6, st_E, stE_z]
  exact finish_T3 _ _ _ _ _ u _ _ _ _ _ _ _ _ (by first | (simp only [zfi, ↓reduceIte, Nat.reduceEqDiff]; done) | (simp only [zfi, ↓reduceIte, Nat.reduceEqDiff]; rfl)) (by first | (simp only [zfi, ↓reduceIte, Nat.reduceEqDiff]; done) | (simp only [zfi, ↓reduceIte, Nat.reduceEqDiff]; rfl)) (by first | (simp only [zfi, ↓reduceIte, Nat.reduceEqDiff]; done) | (simp only [zfi, ↓reduceIte, Nat.reduceEqDiff]; rfl)) (by first | (simp only [zfi, ↓reduceIte, Nat.reduceEqDiff]; done) | (simp only [zfi, ↓reduceIte, Nat.reduceEqDiff]; rfl)) (by first | (simp only [zfi, ↓reduceIte, Nat.reduceEqDiff]; done) | (simp only [zfi, ↓reduceIte, Nat.reduceEqDiff]; rfl)) rfl
set_option maxHeartbeats 4000000 in
theorem call3_bad (n d : Nat) (a b c u : T) (h3 : evalFn Tryd.prog cfg2 n (d+1) 22 [.tree (.str sSet), .tree (.sl (cellsK [a, b, c]) 3 .tight)] = some (.tree (.tup [encT u, .bool false]), [[], []])) :
    evalFn Tryd.prog cfg2 n (d+2) 10 [.tree (.str sErl), .tree (.str sSet), .tree (.sl (cellsK [a, b, c]) 3 .tight)] = some (.tree (.tup [encT T0, .agg (errA sErrW sBad), .bool false]), [[], [], []]) := by
  rw [evalFn_goP _ Tryd.func10 (by unfold Tryd.f10; rfl) (by unfold Tryd.f10; decide) (Nat.le_of_ble_eq_true (by unfold Tryd.f10; rfl)) (by kernel_rfl)]
  have c1 := fun D st => callA_trees (cfg := cfg2) (d := D) (s := st) (f := 19) (vs := [.str sErl, .str sSet, .int .i64 3]) rfl (ev2 (n := n) (d := d) rfl (m2 hasSet))
  have c2 := fun D st => callA_trees (cfg := cfg2) (d := D) (s := st) (f := 21) (vs := [.sl throws 3 .tight, .str sSet]) rfl (ev2 (n := n) (d := d) rfl (m2 contSet))
  have c3 := fun D st => callA_trees (cfg := cfg2) (d := D) (s := st) (f := 22) (vs := [.str sSet, .sl (cellsK [a, b, c]) 3 .tight]) rfl h3
  have c4 := fun D st => callA_trees (cfg := cfg2) (d := D) (s := st) (f := 20) (vs := [.str sBad]) rfl (ev2 (n := n) (d := d) rfl (atom_eq 9223372036854775808 6189 sBad))
  simp only [encT] at c3 c4
  simp only [throws] at c2
  simp only [sBad] at c4
  have w5 : (sErl == ([101, 114, 108, 97, 110, 103] : List UInt8)) = true := by decide
  have b2 := bdE_2 sErrW sBad
  simp only [sErrW, sBad] at b2
  have hst := fun st p k => st_E2 st p k sErrW sBad
  simp only [sErrW, sBad] at hst
  have hst2 := fun t k p st => stE_2 t k p st sErrW sBad
  simp only [sErrW, sBad] at hst2
  simp only [prune_seq, prune_cond, prune_block, prune_loop, prune_scope, prune_text, prune_skip, prune_ret, prune_exit, zaa, zab, zac, zad, zae, zaf, zag, zah, zai, zaj, zak, zal, zam, zan, zao, zap, zaq, zar, zas, zat, zau, zav, zaw, zax, zay, zaz, zba, zbb, zbc, zbd, zbe, zbf, zbg, zbh, zbi, zbj, zbk, zbl, zbm, zbn, keep2, zbp, zbq, Nat.reduceBEq, Bool.or_self, Bool.or_false, Bool.or_true, Bool.and_true, Bool.and_false, Bool.true_and, Bool.false_and, Option.isNone_none, Option.isNone_some, Option.isSome_some, Option.isSome_none, zbr, zbs, zbt, zbu, zbv, zbw, zbx, zby, zbz, zca, zcb, zcc, zcd, zce, zcf, zcg, zch, zci, zcj, zck, zcl, zcm, zcn, zco, zcp, zcq, zcr, own2, String.reduceAppend, String.reduceBEq, Bool.or_false, Bool.or_true, Bool.or_self, zcs, zct, zcu, zcv, zcw, zcx, zcy, zcz, zda, zdb, zdc, zdd, zde, zdf, zdg, zdh, zdi, zdj, zdk, zdl, zdm, zdn, zdo, zdp, zdq, zdr, zds, zdt, zdu, Option.getD_some, Option.getD_none, zfb, zfc, zfd, zfe, zff, zfg, zfh, zfi, Option.map_some, Option.map_none, Option.bind_some, List.map_cons, List.map_nil, List.cons_append, List.nil_append, ↓reduceIte, Nat.reduceEqDiff, Nat.reduceAdd, decide_true, decide_false, Bool.true_eq_false, Bool.false_eq_true, env0, List.getElem?_cons_zero, List.getElem?_cons_succ, zdv, zdw, zdx, zdy, zdz, zea, zeb, zec, ia22, ld31, zed, zee, zef, zeg, zeh, zei, zej, zek, zel, zem, zen, zeo, zep, zeq, zer, fa_0, fa_1, zes, bd_0, bd_2, zet, fd_1, zeu, Nat.zero_add, zev, List.toList_toArray, len9, ix9, zew, zex, zey, zez, zfa, zeroT, zeroE, lenTk3, i_eqlV, s_eqlS, w5, opA_three64c, three64_str, c1, c2, c3, c4, unA_not', Bool.not_true, Bool.not_false, zds, ldT_u, bdT_00, b2, st_Tt, stT_6, hst, hst2]
  exact finish_T3g _ _ _ _ _ T0 _ _ _ _ _ _ _ _ (errA sErrW sBad) rfl (by first | (simp only [zfi, ↓reduceIte, Nat.reduceEqDiff]; done) | (simp only [zfi, ↓reduceIte, Nat.reduceEqDiff]; rfl)) (by first | (simp only [zfi, ↓reduceIte, Nat.reduceEqDiff]; done) | (simp only [zfi, ↓reduceIte, Nat.reduceEqDiff]; rfl)) (by first | (simp only [zfi, ↓reduceIte, Nat.reduceEqDiff]; done) | (simp only [zfi, ↓reduceIte, Nat.reduceEqDiff]; rfl)) (by first | (simp only [zfi, ↓reduceIte, Nat.reduceEqDiff]; done) | (simp only [zfi, ↓reduceIte, Nat.reduceEqDiff]; rfl)) (by first | (simp only [zfi, ↓reduceIte, Nat.reduceEqDiff]; done) | (simp only [zfi, ↓reduceIte, Nat.reduceEqDiff]; rfl)) rfl
end Go.Ab

/- relictlaw19.few, relictref03.Nodes; slices of rows of terms, put behind one another. Conditions: lengths in range. -/
namespace Go.Ab
open Go.Proofs
set_option maxRecDepth 100000
set_option linter.unusedSimpArgs false

/-! ### Rows, sliced and put behind one another -/
end Go.Ab

/- The statement BifOrders, its end. Conditions: terms that may be. -/
namespace Go.Ab
open Go.Proofs
set_option maxRecDepth 100000
set_option linter.unusedSimpArgs false

section
variable (R : Nat) (hR : 1000000 ≤ R) (a b : T) (l : List T) (n : Int) (ga : goodT a) (gb : goodT b) (na : nodT a ≤ 200) (nb : nodT b ≤ 200)
include hR na nb
omit na nb in
include ga in
end
end Go.Ab

/- The statement BifTuples (CFG2). Conditions: numbers that Go has. -/
namespace Go.Ab
open Go.Proofs
set_option maxRecDepth 100000
set_option linter.unusedSimpArgs false

/-! ### A tuple whose terms grow in a cell -/
theorem ldE_mixK (t k : Nat) (xs : List AV) (v : AV) : ldE Tryd.prog 22 ⟨t, .mix xs [(5, v)]⟩ k 5 = if t = k then some v else none := by
  simp only [ldE, ldC, shTk, heldL, if_true]
theorem ldE_mixT (t k : Nat) (u : T) (hs : List (Nat × AV)) : ldE Tryd.prog 29 ⟨t, .mix (cellsT u) hs⟩ k 0 = if t = k then some (.agg (cellsT u)) else none := by
  have := ldT_u t k u
  simp only [ldE, ldC, shT] at this ⊢
  exact this
theorem faE_mix (t p k off : Nat) (xs : List AV) (hs : List (Nat × AV)) : faE ⟨t, .mix xs hs⟩ p k off = if t = k then some (.ptr p k off) else none := by
  simp only [faE, cellsE]
  by_cases e : t = k <;> simp [e]
/-- What is in entry p: a tuple of these terms, the row of which is x. -/
def TupM (e : Ent) (us : List T) (x : AV) : Prop := (us = [] ∧ x = .sl [] 0 .nil ∧ e = ⟨1, .buf (cellsT (tupT .n []))⟩) ∨ (us ≠ [] ∧ ∃ q t, x = .sl (cellsK us) us.length (.tok q t) ∧ e = ⟨1, .mix (cellsT (tupT .l us)) [(5, x)]⟩)
theorem TupM.fa {e : Ent} {us : List T} {x : AV} (h : TupM e us x) (p : Nat) : faE e p 1 5 = some (.ptr p 1 5) := by
  rcases h with ⟨_, _, rfl⟩ | ⟨_, q, t, _, rfl⟩
  · rw [zes, if_pos rfl]
  · rw [faE_mix, if_pos rfl]
theorem TupM.ld {e : Ent} {us : List T} {x : AV} (h : TupM e us x) : ldE Tryd.prog 22 e 1 5 = some x := by
  rcases h with ⟨_, rfl, rfl⟩ | ⟨_, q, t, _, rfl⟩
  · exact (ldT_4K 1 1 .n []).trans (if_pos rfl)
  · exact (ldE_mixK 1 1 _ x).trans (if_pos rfl)
theorem TupM.all {e : Ent} {us : List T} {x : AV} (h : TupM e us x) : ldE Tryd.prog 29 e 1 0 = some (.agg (cellsT (tupT (kgOf us) us))) := by
  rcases h with ⟨rfl, _, rfl⟩ | ⟨hu, q, t, _, rfl⟩
  · exact (ldT_u 1 1 _).trans (if_pos rfl)
  · rw [kgOf, if_neg hu]
    exact (ldE_mixT 1 1 _ _).trans (if_pos rfl)
theorem TupM.row {e : Ent} {us : List T} {x : AV} (h : TupM e us x) : ∃ g, x = .sl (cellsK us) us.length g := by
  rcases h with ⟨rfl, rfl, _⟩ | ⟨_, q, t, rfl, _⟩
  · exact ⟨.nil, rfl⟩
  · exact ⟨_, rfl⟩
theorem TupM.store {s : St} {p : Nat} {us vs : List T} {x x' : AV} {d : Nat} {s0 : St} (h : TupM (s p) us x) (ha : Ap s0 d x' vs) (hv : vs ≠ []) :
    ∃ s', storeH Tryd.prog 22 s (.ptr p 1 5) x' = some s' ∧ (∀ q, q ≠ p → s' q = s q) ∧ TupM (s' p) vs x' := by
  rcases ha with ⟨rfl, _⟩ | ⟨_, t, rfl, _⟩
  · exact absurd rfl hv
  rcases h with ⟨rfl, rfl, he⟩ | ⟨hu, q, t', rfl, he⟩
  · refine ⟨upd s p ⟨1, .mix (cellsT (tupT .l vs)) [(5, .sl (cellsK vs) vs.length (.tok d t))]⟩, ?_, fun q hq => upd_ne _ _ hq, .inr ⟨hv, d, t, rfl, upd_same _ _ _⟩⟩
    simp only [storeH, he, eszTk]
    rw [if_pos ⟨trivial, trivial, by decide⟩]
    rfl
  · refine ⟨upd s p ⟨1, .mix (cellsT (tupT .l vs)) [(5, .sl (cellsK vs) vs.length (.tok d t))]⟩, ?_, fun q hq => upd_ne _ _ hq, .inr ⟨hv, d, t, rfl, upd_same _ _ _⟩⟩
    simp only [storeH, he, eszTk]
    rw [if_pos ⟨trivial, trivial, by show 5 < 6; decide⟩]
    rfl
end Go.Ab

/- The statement BifTuples: its later parts (CFG2). Conditions: numbers that Go has. -/
namespace Go.Ab
open Go.Proofs
set_option maxRecDepth 100000
set_option linter.unusedSimpArgs false

noncomputable def codeBU : Code := (Tryd.f4.body).getD .skip
noncomputable def bu1 : Code := seqR codeBU
noncomputable def bu2 : Code := seqR bu1
noncomputable def bu3 : Code := seqR bu2
noncomputable def bu4 : Code := seqR bu3
noncomputable def bu5 : Code := seqR bu4
noncomputable def bu6 : Code := seqR bu5
noncomputable def bu7 : Code := seqR bu6
noncomputable def bu8 : Code := seqR bu7
noncomputable def bu9 : Code := seqR bu8
section
variable (n : Nat) (hn : 100 ≤ n) (l : List Int) (a1 v : Int) (hx : ∀ x ∈ l, I64 x) (hv : I64 v) (hl : l.length ≤ 40)
theorem awake2 (n d : Nat) : evalFn Tryd.prog cfg2 n (d+1) 7 [] = some (.tree (.bool true), []) := ev2 rfl (evalFn_mono (by decide) 60 6190 (by decide) _ _ _ awakeB_eq)
theorem I1_2 (n d : Nat) (v : Int) (h : I64 v) : evalFn Tryd.prog cfg2 n (d+1) 13 [.tree (.int .i64 v)] = some (.tree (encT (intT v)), [[]]) := ev2 rfl (I1_eq 9223372036854775808 6185 (by decide) v h)
theorem same2 (n d : Nat) (v : Int) (h : I64 v) : evalFn Tryd.prog cfg2 n (d+1) 12 [.tree (encT (intT v)), .tree (encT (intT v))] = some (.tree (.bool true), [[], []]) := by
  have := rsame_eq 100000 (by decide) 6189 6190 (intT v) (intT v) (by have := ht_nod (intT v); have := nod_int v; omega) (by decide) (good_few _ (good_int h))
  rw [same_refl] at this
  exact ev2 rfl (evalFn_mono (by decide) 6190 6190 (Nat.le_refl _) _ _ _ this)
include hn hx hv hl
set_option maxHeartbeats 16000000 in
theorem bu9_eq (kk : Int) (hk : 1 ≤ kk ∧ kk ≤ l.length) (x : AV) (env : Env) (st : St) (e0 : env 0 = .sl (intsA l) l.length .loose) (e2 : env 2 = .int .i64 v) (e7 : env 7 = .ptr 7 1 0) (e9 : env 9 = .int .i64 kk) (e10 : env 10 = .ptr 10 1 0)
    (tm : TupM (st 7) (l.map intT) x) (j10 : st 10 = ⟨1, .buf (cellsT (tupT .l ((l.map intT).set (kk.toNat - 1) (intT v))))⟩) :
    den Tryd.prog cfg2 (evalFn Tryd.prog cfg2 n 9) n bu9 (finK Tryd.prog (cfg2.keep 4) [.tree (.sl (intsA l) l.length .loose), .tree (.int .i64 a1), .tree (.int .i64 v)] Tryd.f4.results) env st = some (.tree (.bool true), [[], [], []]) := by
  have wa := fun D st => callA_trees (cfg := cfg2) (d := D) (s := st) (f := 7) (vs := []) rfl (awake2 n 8)
  have hml : (l.map intT).length = l.length := List.length_map _
  simp only [bu9, bu8, bu7, bu6, bu5, bu4, bu3, bu2, bu1, codeBU, seqR, Tryd.f4, Option.getD_some, zaa, zab, zac, zad, zae, zaf, zag, zah, zai, zaj, zak, zal, zam, zan, zao, zap, zaq, zar, zas, zat, zau, zav, zaw, zax, zay, zaz, zba, zbb, zbc, zbd, zbe, zbf, zbg, zbh, zbi, zbj, zbk, zbl, zbm, zbn, keep2, zbp, zbq, Nat.reduceBEq, Bool.or_self, Bool.or_false, Bool.or_true, Bool.and_true, Bool.and_false, Bool.true_and, Bool.false_and, Option.isNone_none, Option.isNone_some, Option.isSome_some, Option.isSome_none, zbr, zbs, zbt, zbu, zbv, zbw, zbx, zby, zbz, zca, zcb, zcc, zcd, zce, zcf, zcg, zch, zci, zcj, zck, zcl, zcm, zcn, zco, zcp, zcq, zcr, own2, String.reduceAppend, String.reduceBEq, Bool.or_false, Bool.or_true, Bool.or_self, zcs, zct, zcu, zcv, zcw, zcx, zcy, zcz, zda, zdb, zdc, zdd, zde, zdf, zdg, zdh, zdi, zdj, zdk, zdl, zdm, zdn, zdo, zdp, zdq, zdr, zds, zdt, zdu, Option.getD_some, Option.getD_none, zfb, zfc, zfd, zfe, zff, zfg, zfh, zfi, Option.map_some, Option.map_none, Option.bind_some, List.map_cons, List.map_nil, List.cons_append, List.nil_append, ↓reduceIte, Nat.reduceEqDiff, Nat.reduceAdd, decide_true, decide_false, Bool.true_eq_false, Bool.false_eq_true, env0, List.getElem?_cons_zero, List.getElem?_cons_succ, zdv, zdw, zdx, zdy, zdz, zea, zeb, zec, ia22, ld31, zed, zee, zef, zeg, zeh, zei, zej, zek, zel, zem, zen, zeo, zep, zeq, zer, fa_0, fa_1, zes, bd_0, bd_2, zet, fd_1, zeu, Nat.zero_add, den_loop]
  refine loop_ends (X := Nat) (fun i env s => env 0 = .sl (intsA l) l.length .loose ∧ env 2 = .int .i64 v ∧ env 7 = .ptr 7 1 0 ∧ env 9 = .int .i64 kk ∧ env 10 = .ptr 10 1 0 ∧ TupM (s 7) (l.map intT) x ∧ s 10 = ⟨1, .buf (cellsT (tupT .l ((l.map intT).set (kk.toNat - 1) (intT v))))⟩ ∧ env 16 = .int .i64 (i : Int) ∧ i ≤ l.length) (fun i => l.length - i) (fun _ => (.tree (.bool true), [[], [], []])) ?_ n 0 _ _ (by omega) ⟨(by first | (simp only [zfi, ↓reduceIte, Nat.reduceEqDiff, e0]; done) | (simp only [zfi, ↓reduceIte, Nat.reduceEqDiff, e0]; rfl)), (by first | (simp only [zfi, ↓reduceIte, Nat.reduceEqDiff, e2]; done) | (simp only [zfi, ↓reduceIte, Nat.reduceEqDiff, e2]; rfl)), (by first | (simp only [zfi, ↓reduceIte, Nat.reduceEqDiff, e7]; done) | (simp only [zfi, ↓reduceIte, Nat.reduceEqDiff, e7]; rfl)), (by first | (simp only [zfi, ↓reduceIte, Nat.reduceEqDiff, e9]; done) | (simp only [zfi, ↓reduceIte, Nat.reduceEqDiff, e9]; rfl)), (by first | (simp only [zfi, ↓reduceIte, Nat.reduceEqDiff, e10]; done) | (simp only [zfi, ↓reduceIte, Nat.reduceEqDiff, e10]; rfl)), tm, j10, (by first | (simp only [zfi, ↓reduceIte, Nat.reduceEqDiff]; done) | (simp only [zfi, ↓reduceIte, Nat.reduceEqDiff]; rfl)), Nat.zero_le _⟩
  clear e0 e2 e7 e9 e10 tm j10
  rintro rd i hrd ih env st ⟨e0, e2, e7, e9, e10, tm, j10, e16, hi⟩
  have il := fun st => lenInts st (intsA l) l.length .loose
  by_cases hil : i < l.length
  rotate_left
  · have q1 : ¬ ((i : Int) < (l.length : Int)) := by omega
    simp only [zaa, zab, zac, zad, zae, zaf, zag, zah, zai, zaj, zak, zal, zam, zan, zao, zap, zaq, zar, zas, zat, zau, zav, zaw, zax, zay, zaz, zba, zbb, zbc, zbd, zbe, zbf, zbg, zbh, zbi, zbj, zbk, zbl, zbm, zbn, keep2, zbp, zbq, Nat.reduceBEq, Bool.or_self, Bool.or_false, Bool.or_true, Bool.and_true, Bool.and_false, Bool.true_and, Bool.false_and, Option.isNone_none, Option.isNone_some, Option.isSome_some, Option.isSome_none, zbr, zbs, zbt, zbu, zbv, zbw, zbx, zby, zbz, zca, zcb, zcc, zcd, zce, zcf, zcg, zch, zci, zcj, zck, zcl, zcm, zcn, zco, zcp, zcq, zcr, own2, String.reduceAppend, String.reduceBEq, Bool.or_false, Bool.or_true, Bool.or_self, zcs, zct, zcu, zcv, zcw, zcx, zcy, zcz, zda, zdb, zdc, zdd, zde, zdf, zdg, zdh, zdi, zdj, zdk, zdl, zdm, zdn, zdo, zdp, zdq, zdr, zds, zdt, zdu, Option.getD_some, Option.getD_none, zfb, zfc, zfd, zfe, zff, zfg, zfh, zfi, Option.map_some, Option.map_none, Option.bind_some, List.map_cons, List.map_nil, List.cons_append, List.nil_append, ↓reduceIte, Nat.reduceEqDiff, Nat.reduceAdd, decide_true, decide_false, Bool.true_eq_false, Bool.false_eq_true, zdv, zdw, zdx, zdy, zdz, zea, zeb, zec, ia22, ld31, zed, zee, zef, zeg, zeh, zei, zej, zek, zel, zem, zen, zeo, zep, zeq, zer, fa_0, fa_1, zes, bd_0, bd_2, zet, fd_1, zeu, Nat.zero_add, e0, e2, e7, e9, e10, e16, il, q1, wa]
    exact finish_b _ _ _ _ _ _ _ (by first | (simp only [zfi, ↓reduceIte, Nat.reduceEqDiff]; done) | (simp only [zfi, ↓reduceIte, Nat.reduceEqDiff]; rfl)) rfl
  have q1 : (i : Int) < (l.length : Int) := by omega
  have ii := fun st => iaInts st (intsA l) l.length .loose i hil
  have ldi := fun st => ldInts l i hil st
  have hxi : I64 l[i] := hx _ (List.getElem_mem hil)
  have c1 := fun D st => callA_trees (cfg := cfg2) (d := D) (s := st) (f := 13) (vs := [.int .i64 l[i]]) rfl (I1_2 n 8 l[i] hxi)
  have c1q := callQ_trees (f := 13) (vs := [.int .i64 l[i]]) rfl (I1_2 n 8 l[i] hxi)
  have c2 := fun D st => callA_trees (cfg := cfg2) (d := D) (s := st) (f := 13) (vs := [.int .i64 v]) rfl (I1_2 n 8 v hv)
  obtain ⟨g, rfl⟩ := tm.row
  have tf := tm.fa 7
  have tl := tm.ld
  have ku := fun st => ia_K st ((l.map intT).set (kk.toNat - 1) (intT v)) (gr .l) i (by rw [List.length_set, hml]; exact hil)
  have kt := fun st => ia_K st (l.map intT) g i (by rw [hml]; exact hil)
  have dt : (l.map intT).drop i = intT l[i] :: (l.map intT).drop (i + 1) := by
    rw [List.drop_eq_getElem_cons (by rw [hml]; exact hil), List.getElem_map]
  rw [dt] at kt
  have f5 := i_add Tryd.prog 3 (i : Int) 1 (by omega) (by omega)
  have f6 := i_sub Tryd.prog 3 kk 1 (by omega) (by omega)
  have sx := callQ_trees (f := 12) (vs := [encT (intT l[i]), encT (intT l[i])]) rfl (same2 n 8 l[i] hxi)
  have sv := callQ_trees (f := 12) (vs := [encT (intT v), encT (intT v)]) rfl (same2 n 8 v hv)
  have hsl : ((l.map intT).set (kk.toNat - 1) (intT v)).length = l.length := by rw [List.length_set, hml]
  rw [hsl] at ku
  rw [hml] at kt tl
  have lk := fun t k => ldT_4K t k .l ((l.map intT).set (kk.toNat - 1) (intT v))
  rw [hsl] at lk
  by_cases hik : (i : Int) = kk - 1
  · have q2 : ((i : Int) == kk - 1) = true := beq_iff_eq.mpr hik
    have du : ((l.map intT).set (kk.toNat - 1) (intT v)).drop i = intT v :: ((l.map intT).set (kk.toNat - 1) (intT v)).drop (i + 1) := by
      rw [List.drop_eq_getElem_cons (by rw [hsl]; exact hil)]
      congr 1
      have : kk.toNat - 1 = i := by omega
      subst this
      exact List.getElem_set_self _
    rw [du] at ku
    simp only [encT] at c1 c1q c2 sx sv
    simp only [zaa, zab, zac, zad, zae, zaf, zag, zah, zai, zaj, zak, zal, zam, zan, zao, zap, zaq, zar, zas, zat, zau, zav, zaw, zax, zay, zaz, zba, zbb, zbc, zbd, zbe, zbf, zbg, zbh, zbi, zbj, zbk, zbl, zbm, zbn, keep2, zbp, zbq, Nat.reduceBEq, Bool.or_self, Bool.or_false, Bool.or_true, Bool.and_true, Bool.and_false, Bool.true_and, Bool.false_and, Option.isNone_none, Option.isNone_some, Option.isSome_some, Option.isSome_none, zbr, zbs, zbt, zbu, zbv, zbw, zbx, zby, zbz, zca, zcb, zcc, zcd, zce, zcf, zcg, zch, zci, zcj, zck, zcl, zcm, zcn, zco, zcp, zcq, zcr, own2, String.reduceAppend, String.reduceBEq, Bool.or_false, Bool.or_true, Bool.or_self, zcs, zct, zcu, zcv, zcw, zcx, zcy, zcz, zda, zdb, zdc, zdd, zde, zdf, zdg, zdh, zdi, zdj, zdk, zdl, zdm, zdn, zdo, zdp, zdq, zdr, zds, zdt, zdu, Option.getD_some, Option.getD_none, zfb, zfc, zfd, zfe, zff, zfg, zfh, zfi, Option.map_some, Option.map_none, Option.bind_some, List.map_cons, List.map_nil, List.cons_append, List.nil_append, ↓reduceIte, Nat.reduceEqDiff, Nat.reduceAdd, decide_true, decide_false, Bool.true_eq_false, Bool.false_eq_true, zdv, zdw, zdx, zdy, zdz, zea, zeb, zec, ia22, ld31, zed, zee, zef, zeg, zeh, zei, zej, zek, zel, zem, zen, zeo, zep, zeq, zer, fa_0, fa_1, zes, bd_0, bd_2, zet, fd_1, zeu, Nat.zero_add, e0, e2, e7, e9, e10, e16, il, q1, ii, ldi, c1, c2, f6, i_eqlV, q2, zeroT, st_Tt, stT_6, stT_u, ldT_u, faT_4, Nat.reduceAdd, j10, lk, ku, ld_K3, sv, unA_not', Bool.not_true, tf, tl, kt, c1q, sx, f5]
    exact ih (i + 1) _ _ (by omega) rfl ⟨(by first | (simp only [zfi, ↓reduceIte, Nat.reduceEqDiff, e0]; done) | (simp only [zfi, ↓reduceIte, Nat.reduceEqDiff, e0]; rfl)), (by first | (simp only [zfi, ↓reduceIte, Nat.reduceEqDiff, e2]; done) | (simp only [zfi, ↓reduceIte, Nat.reduceEqDiff, e2]; rfl)), (by first | (simp only [zfi, ↓reduceIte, Nat.reduceEqDiff, e7]; done) | (simp only [zfi, ↓reduceIte, Nat.reduceEqDiff, e7]; rfl)), (by first | (simp only [zfi, ↓reduceIte, Nat.reduceEqDiff, e9]; done) | (simp only [zfi, ↓reduceIte, Nat.reduceEqDiff, e9]; rfl)), (by first | (simp only [zfi, ↓reduceIte, Nat.reduceEqDiff, e10]; done) | (simp only [zfi, ↓reduceIte, Nat.reduceEqDiff, e10]; rfl)), tm, (by first | (simp only [zfi, ↓reduceIte, Nat.reduceEqDiff, j10]; done) | (simp only [zfi, ↓reduceIte, Nat.reduceEqDiff, j10]; rfl)), (by first | (simp only [zfi, ↓reduceIte, Nat.reduceEqDiff]; done) | (simp only [zfi, ↓reduceIte, Nat.reduceEqDiff]; rfl)), by omega⟩
  · have q2 : ((i : Int) == kk - 1) = false := beq_eq_false_iff_ne.mpr hik
    have du : ((l.map intT).set (kk.toNat - 1) (intT v)).drop i = intT l[i] :: ((l.map intT).set (kk.toNat - 1) (intT v)).drop (i + 1) := by
      rw [List.drop_eq_getElem_cons (by rw [hsl]; exact hil)]
      congr 1
      rw [List.getElem_set_ne (by omega), List.getElem_map]
    rw [du] at ku
    simp only [encT] at c1 c1q c2 sx sv
    simp only [zaa, zab, zac, zad, zae, zaf, zag, zah, zai, zaj, zak, zal, zam, zan, zao, zap, zaq, zar, zas, zat, zau, zav, zaw, zax, zay, zaz, zba, zbb, zbc, zbd, zbe, zbf, zbg, zbh, zbi, zbj, zbk, zbl, zbm, zbn, keep2, zbp, zbq, Nat.reduceBEq, Bool.or_self, Bool.or_false, Bool.or_true, Bool.and_true, Bool.and_false, Bool.true_and, Bool.false_and, Option.isNone_none, Option.isNone_some, Option.isSome_some, Option.isSome_none, zbr, zbs, zbt, zbu, zbv, zbw, zbx, zby, zbz, zca, zcb, zcc, zcd, zce, zcf, zcg, zch, zci, zcj, zck, zcl, zcm, zcn, zco, zcp, zcq, zcr, own2, String.reduceAppend, String.reduceBEq, Bool.or_false, Bool.or_true, Bool.or_self, zcs, zct, zcu, zcv, zcw, zcx, zcy, zcz, zda, zdb, zdc, zdd, zde, zdf, zdg, zdh, zdi, zdj, zdk, zdl, zdm, zdn, zdo, zdp, zdq, zdr, zds, zdt, zdu, Option.getD_some, Option.getD_none, zfb, zfc, zfd, zfe, zff, zfg, zfh, zfi, Option.map_some, Option.map_none, Option.bind_some, List.map_cons, List.map_nil, List.cons_append, List.nil_append, ↓reduceIte, Nat.reduceEqDiff, Nat.reduceAdd, decide_true, decide_false, Bool.true_eq_false, Bool.false_eq_true, zdv, zdw, zdx, zdy, zdz, zea, zeb, zec, ia22, ld31, zed, zee, zef, zeg, zeh, zei, zej, zek, zel, zem, zen, zeo, zep, zeq, zer, fa_0, fa_1, zes, bd_0, bd_2, zet, fd_1, zeu, Nat.zero_add, e0, e2, e7, e9, e10, e16, il, q1, ii, ldi, c1, f6, i_eqlV, q2, zeroT, st_Tt, stT_6, stT_u, ldT_u, faT_4, Nat.reduceAdd, j10, lk, ku, ld_K3, unA_not', Bool.not_true, tf, tl, kt, c1q, sx, f5]
    exact ih (i + 1) _ _ (by omega) rfl ⟨(by first | (simp only [zfi, ↓reduceIte, Nat.reduceEqDiff, e0]; done) | (simp only [zfi, ↓reduceIte, Nat.reduceEqDiff, e0]; rfl)), (by first | (simp only [zfi, ↓reduceIte, Nat.reduceEqDiff, e2]; done) | (simp only [zfi, ↓reduceIte, Nat.reduceEqDiff, e2]; rfl)), (by first | (simp only [zfi, ↓reduceIte, Nat.reduceEqDiff, e7]; done) | (simp only [zfi, ↓reduceIte, Nat.reduceEqDiff, e7]; rfl)), (by first | (simp only [zfi, ↓reduceIte, Nat.reduceEqDiff, e9]; done) | (simp only [zfi, ↓reduceIte, Nat.reduceEqDiff, e9]; rfl)), (by first | (simp only [zfi, ↓reduceIte, Nat.reduceEqDiff, e10]; done) | (simp only [zfi, ↓reduceIte, Nat.reduceEqDiff, e10]; rfl)), tm, (by first | (simp only [zfi, ↓reduceIte, Nat.reduceEqDiff, j10]; done) | (simp only [zfi, ↓reduceIte, Nat.reduceEqDiff, j10]; rfl)), (by first | (simp only [zfi, ↓reduceIte, Nat.reduceEqDiff]; done) | (simp only [zfi, ↓reduceIte, Nat.reduceEqDiff]; rfl)), by omega⟩
end
end Go.Ab

/- The statement BifTuples, walked (CFG2). Conditions: numbers that Go has. -/
namespace Go.Ab
open Go.Proofs
set_option maxRecDepth 100000
set_option linter.unusedSimpArgs false

def trio26 (x y z : AV) : Option AV := (fillA (fun i => some (i * 6, 6)) (rep 3 [.int .i64 0, .bool false, .sl [] 0 .nil, .str [], .int .i64 0, .sl [] 0 .nil]) [(0, x), (1, y), (2, z)]).map (.sl · 3 .tight)
theorem trio26_agg (a b c d e f a' b' c' d' e' f' a2 b2 c2 d2 e2 f2 : AV) : trio26 (.agg [a, b, c, d, e, f]) (.agg [a', b', c', d', e', f']) (.agg [a2, b2, c2, d2, e2, f2]) = some (.sl [a, b, c, d, e, f, a', b', c', d', e', f', a2, b2, c2, d2, e2, f2] 3 .tight) := rfl
theorem opA_trio26 (call : FuncId → List Arg → Option Out) (q : Bool) (d : Option Tmp) (ty : TypeId) (pos : String) (af : Array Edge) (g : Option (Nat × Bool)) (t : Nat) (env : Env) (s : St) (x y z : Operand) :
    opA Tryd.prog cfg2 call q ⟨d, .buildSlice 22 3 #[(0, x), (1, y), (2, z)], ty, pos, af, g⟩ t env s = (trio26 (ev env x) (ev env y) (ev env z)).map (·, s) := by
  rw [opA_bs]
  simp only [tkTk, eszT, zeroT, Option.bind_some, List.map_cons, List.map_nil]
  rfl
theorem trio26_K (a b c : T) : trio26 (.agg (cellsT a)) (.agg (cellsT b)) (.agg (cellsT c)) = some (.sl (cellsK [a, b, c]) 3 .tight) := by
  obtain ⟨k, b1, lg, l, s, m, kg, ks⟩ := a
  obtain ⟨k', b2, lg', l', s', m', kg', ks'⟩ := b
  obtain ⟨k2, b3, lg2, l2, s2, m2, kg2, ks2⟩ := c
  simp only [cellsT, cellsK, List.append_nil, List.cons_append, List.nil_append]
  exact trio26_agg _ _ _ _ _ _ _ _ _ _ _ _ _ _ _ _ _ _
theorem duo26_c (call : FuncId → List Arg → Option Out) (q : Bool) (d : Option Tmp) (ty : TypeId) (pos : String) (af : Array Edge) (g : Option (Nat × Bool)) (t : Nat) (env : Env) (s : St) (x y : Operand) :
    opA Tryd.prog cfg2 call q ⟨d, .buildSlice 22 2 #[(0, x), (1, y)], ty, pos, af, g⟩ t env s = (duo26 (ev env x) (ev env y)).map (·, s) := by
  rw [opA_bs]
  simp only [tkTk, eszT, zeroT, Option.bind_some, List.map_cons, List.map_nil]
  rfl
theorem fdE0 : fieldOf Tryd.prog 33 0 = some (9, 0) := by kernel_rfl
theorem fdE1 : fieldOf Tryd.prog 33 1 = some (29, 1) := by kernel_rfl
theorem faErr_0 (s : St) (p k : Nat) : fieldAddrA Tryd.prog 33 s (.ptr p k 0) 0 = faE (s p) p k 0 := by
  simp only [fieldAddrA, fdE0, esz9, live, cellsAt_E, faE, Nat.zero_add]
theorem faErr_1 (s : St) (p k : Nat) : fieldAddrA Tryd.prog 33 s (.ptr p k 0) 1 = faE (s p) p k 1 := by
  simp only [fieldAddrA, fdE1, eszT, live, cellsAt_E, faE, Nat.zero_add]
theorem ldErr_0 (t k : Nat) (x y : List UInt8) : ldE Tryd.prog 9 ⟨t, .buf (errA x y)⟩ k 0 = if t = k then some (.str x) else none := by
  simp only [ldE, ldC, partA, shTs]; rfl
theorem ldErr_4 (t k : Nat) (x y : List UInt8) : ldE Tryd.prog 9 ⟨t, .buf (errA x y)⟩ k 4 = if t = k then some (.str y) else none := by
  simp only [ldE, ldC, partA, shTs]; rfl
theorem nodK_allJ (m : Nat) : ∀ ks : List T, (∀ t ∈ ks, nodT t ≤ m) → nodK ks ≤ ks.length * m
  | [], _ => by simp [nodK]
  | k :: ks, h => by
    have h1 := h k (by simp)
    have h2 := nodK_allJ m ks fun t ht => h t (by simp [ht])
    simp only [nodK, List.length_cons]
    have : (ks.length + 1) * m = ks.length * m + m := Nat.succ_mul _ _
    omega
theorem nod_set (us : List T) (h : ∀ t ∈ us, nodT t ≤ 1) (hl : us.length ≤ 40) (i : Nat) (w : T) (hw : nodT w ≤ 1) : nodT (tupT .l (us.set i w)) ≤ 2000 := by
  show nodK (us.set i w) + 1 ≤ 2000
  have := nodK_allJ 1 (us.set i w) (fun t ht => by
    rcases List.mem_or_eq_of_mem_set ht with h1 | h1
    · exact h t h1
    · subst h1; exact hw)
  rw [List.length_set] at this
  omega
theorem setOk (n : Nat) (kk v : Int) (us : List T) (h : ∀ t ∈ us, nodT t ≤ 1) (hl : us.length ≤ 40) (hk : 1 ≤ kk ∧ kk ≤ us.length) :
    callQ (evalFn Tryd.prog cfg2 n 9) 10 [.str sErl, .str sSet, .sl (cellsK [intT kk, tupT .l us, intT v]) 3 .tight] = some (.tup [encT (tupT .l (us.set (kk.toNat - 1) (intT v))), .agg zErr, .bool true]) :=
  callQ_trees (f := 10) (vs := [.str sErl, .str sSet, .sl (cellsK [intT kk, tupT .l us, intT v]) 3 .tight]) rfl (call3_ok n 7 _ _ _ _ (answer3_ok n 6 sSet kk us (by omega) (intT v) hk) (nod_set us h hl _ _ (Nat.le_of_eq (nod_int v))))
theorem setBad (n : Nat) (kk v : Int) (h1 : -1000000 ≤ kk) (h2 : kk ≤ 1000000) (kg : Gk) (us : List T) (hl : us.length ≤ 40) (hk : ¬ (1 ≤ kk ∧ kk ≤ us.length)) :
    callQ (evalFn Tryd.prog cfg2 n 9) 10 [.str sErl, .str sSet, .sl (cellsK [intT kk, tupT kg us, intT v]) 3 .tight] = some (.tup [encT T0, .agg (errA sErrW sBad), .bool false]) :=
  callQ_trees (f := 10) (vs := [.str sErl, .str sSet, .sl (cellsK [intT kk, tupT kg us, intT v]) 3 .tight]) rfl (call3_bad n 7 _ _ _ T0 (answer3_bad n 6 sSet kk h1 h2 kg us (by omega) (intT v) hk))
theorem elOkZ (kk y : Int) (us : List T) (h2 : kk ≤ 1000000) (hl : us.length ≤ 40) (hk : 1 ≤ kk ∧ kk ≤ us.length) (hy : us.getD (kk.toNat - 1) T0 = intT y) (R : Nat) (hR : 1000000 ≤ R) :
    evalFn Tryd.prog cfg0 R 6190 10 [.tree (.str sErl), .tree (.str sEl), .tree (.sl (cellsK [intT kk, tupT .l us]) 2 .tight)] = some (.tree (.tup [encT (intT y), .agg zErr, .bool true]), [[], [], []]) := by
  have two := Two1_eq R 6182 (by omega) kk (by omega) h2 .l us (by omega)
  rw [if_pos hk, hy] at two
  have hT := tNodes_eq 1000000 (Nat.le_refl _) 6189 (intT y) (by have := ht_nod (intT y); have := nod_int y; omega) (by rw [nod_int]; decide)
  exact call2_eq R 6189 sEl (intT kk) (tupT .l us) (intT y) (evalFn_mono (show 100000 ≤ R by omega) 20 6189 (by decide) _ _ _ hasEl) (evalFn_mono (show 100000 ≤ R by omega) 20 6189 (by decide) _ _ _ contEl)
    (answer2_eq R 6188 sEl _ _ _ true (twoEl_eq R 6187 _ _ _ true two)) (evalFn_mono hR 6189 6189 (Nat.le_refl _) _ _ _ hT) (by rw [nod_int]; decide)
theorem elBadZ (kk : Int) (h1 : -1000000 ≤ kk) (h2 : kk ≤ 1000000) (kg : Gk) (us : List T) (hl : us.length ≤ 40) (hk : ¬ (1 ≤ kk ∧ kk ≤ us.length)) (R : Nat) (hR : 1000000 ≤ R) :
    evalFn Tryd.prog cfg0 R 6190 10 [.tree (.str sErl), .tree (.str sEl), .tree (.sl (cellsK [intT kk, tupT kg us]) 2 .tight)] = some (.tree (.tup [encT T0, .agg (errA sErrW sBad), .bool false]), [[], [], []]) := by
  have two := Two1_eq R 6182 (by omega) kk h1 h2 kg us (by omega)
  rw [if_neg hk] at two
  exact call2bad_eq R 6188 sEl (intT kk) (tupT kg us) T0 (evalFn_mono (show 100000 ≤ R by omega) 20 6189 (by decide) _ _ _ hasEl) (evalFn_mono (show 100000 ≤ R by omega) 20 6189 (by decide) _ _ _ contEl)
    (answer2_eq R 6188 sEl _ _ _ false (twoEl_eq R 6187 _ _ _ false two))
end Go.Ab

/- The statement BifTuples, walked (CFG2). Conditions: numbers that Go has. -/
namespace Go.Ab
open Go.Proofs
set_option maxRecDepth 100000
set_option linter.unusedSimpArgs false

section
variable (n : Nat) (hn : 100 ≤ n) (l : List Int) (a1 v : Int) (hx : ∀ x ∈ l, I64 x) (hv : I64 v) (hl : l.length ≤ 40)
include hn hx hv hl
set_option maxHeartbeats 32000000 in
theorem bu4_eq (x : AV) (env : Env) (st : St) (e0 : env 0 = .sl (intsA l) l.length .loose) (e1 : env 1 = .int .i64 a1) (e2 : env 2 = .int .i64 v) (e7 : env 7 = .ptr 7 1 0)
    (tm : TupM (st 7) (l.map intT) x) (k10 : (st 10).t = 0) (k11 : (st 11).t = 0) (k13 : (st 13).t = 0) (k14 : (st 14).t = 0) :
    den Tryd.prog cfg2 (evalFn Tryd.prog cfg2 n 9) n bu4 (finK Tryd.prog (cfg2.keep 4) [.tree (.sl (intsA l) l.length .loose), .tree (.int .i64 a1), .tree (.int .i64 v)] Tryd.f4.results) env st = some (.tree (.bool true), [[], [], []]) := by
  have wa := fun D st => callA_trees (cfg := cfg2) (d := D) (s := st) (f := 7) (vs := []) rfl (awake2 n 8)
  have hml : (l.map intT).length = l.length := List.length_map _
  have hp := place_range a1 60 (by decide)
  have cp := fun D st => callA_trees (cfg := cfg2) (d := D) (s := st) (f := 14) (vs := [.int .i64 a1, .int .i64 60]) rfl (ev2 (n := n) (d := 8) rfl (place_eq 9223372036854775808 6189 a1 60 (by decide) (by decide)))
  obtain ⟨pp, hpp⟩ : ∃ pp, placeN a1 60 = pp := ⟨_, rfl⟩
  rw [hpp] at hp cp
  have f5 := i_sub Tryd.prog 3 pp 5 (by omega) (by omega)
  obtain ⟨kk, hkk⟩ : ∃ kk, pp - 5 = kk := ⟨_, rfl⟩
  rw [hkk] at f5
  have rk : -5 ≤ kk ∧ kk ≤ 54 := by omega
  have ck := callQ_trees (f := 13) (vs := [.int .i64 kk]) rfl (I1_2 n 8 kk ⟨by omega, by omega⟩)
  have cv := callQ_trees (f := 13) (vs := [.int .i64 v]) rfl (I1_2 n 8 v hv)
  have il := fun st => lenInts st (intsA l) l.length .loose
  have tm' := tm
  obtain ⟨g, rfl⟩ := tm.row
  have tf := tm.fa 7
  have tl := tm.ld
  have ta := tm.all
  simp only [encT] at ck cv
  by_cases hk : 1 ≤ kk ∧ kk ≤ (l.length : Int)
  · -- a place that is one
    have hne : l.map intT ≠ [] := fun h => by have := congrArg List.length h; simp at this; subst this; simp at hk; omega
    have hg : kgOf (l.map intT) = .l := by rw [kgOf, if_neg hne]
    rw [hg] at ta
    have c1 := setOk n kk v (l.map intT) (fun t ht => by obtain ⟨z, _, rfl⟩ := List.mem_map.1 ht; exact Nat.le_of_eq (nod_int z)) (by omega) ⟨hk.1, by rw [hml]; exact hk.2⟩
    have hi : kk.toNat - 1 < (l.map intT).length := by rw [hml]; omega
    have hget : (l.map intT).getD (kk.toNat - 1) T0 = intT (l.getD (kk.toNat - 1) 0) := by
      rw [List.getD_eq_getElem?_getD, List.getD_eq_getElem?_getD, List.getElem?_map, List.getElem?_eq_getElem (by rw [hml] at hi; exact hi)]; rfl
    obtain ⟨y, hy⟩ : ∃ y, l.getD (kk.toNat - 1) 0 = y := ⟨_, rfl⟩
    rw [hy] at hget
    have hy64 : I64 y := by
      rw [← hy, List.getD_eq_getElem?_getD, List.getElem?_eq_getElem (by rw [hml] at hi; exact hi)]
      exact hx _ (List.getElem_mem _)
    have c2 := callQ_trees (f := 10) (vs := [.str sErl, .str sEl, .sl (cellsK [intT kk, tupT .l (l.map intT)]) 2 .tight]) rfl (ev2 (n := n) (d := 8) rfl (elOkZ kk y (l.map intT) (by omega) (by omega) ⟨hk.1, by rw [hml]; exact hk.2⟩ hget 9223372036854775808 (by decide)))
    simp only [encT, sErl, sSet] at c1
    simp only [encT, sErl, sEl] at c2
    have q1 : ¬ kk < 1 := by omega
    have q2 : ¬ kk > (l.length : Int) := by omega
    have f6 := i_sub Tryd.prog 3 kk 1 (by omega) (by omega)
    have e6 : kk - 1 = ((kk.toNat - 1 : Nat) : Int) := by omega
    rw [e6] at f6
    have kt := fun st => ia_K st (l.map intT) g (kk.toNat - 1) hi
    have hge : (l.map intT)[kk.toNat - 1] = intT y := by
      rw [List.getD_eq_getElem?_getD, List.getElem?_eq_getElem hi, Option.getD_some] at hget
      exact hget
    have dt : (l.map intT).drop (kk.toNat - 1) = intT y :: (l.map intT).drop (kk.toNat - 1 + 1) := by
      rw [List.drop_eq_getElem_cons hi, hge]
    rw [dt] at kt
    rw [hml] at kt tl
    have sy := callQ_trees (f := 12) (vs := [encT (intT y), encT (intT y)]) rfl (same2 n 8 y hy64)
    simp only [encT] at sy
    have lk := fun t k => ldT_4K t k .l ((l.map intT).set (kk.toNat - 1) (intT v))
    rw [List.length_set, hml] at lk
    have b2 : ((l.length : Int) != (l.length : Int)) = false := by simp
    have hb : bu4 = .seq (seqL bu4) (.seq (seqL bu5) (.seq (seqL bu6) (.seq (seqL bu7) (.seq (seqL bu8) bu9)))) := rfl
    rw [hb]
    simp only [seqL, bu8, bu7, bu6, bu5, bu4, bu3, bu2, bu1, codeBU, seqR, Tryd.f4, Option.getD_some, zaa, zab, zac, zad, zae, zaf, zag, zah, zai, zaj, zak, zal, zam, zan, zao, zap, zaq, zar, zas, zat, zau, zav, zaw, zax, zay, zaz, zba, zbb, zbc, zbd, zbe, zbf, zbg, zbh, zbi, zbj, zbk, zbl, zbm, zbn, keep2, zbp, zbq, Nat.reduceBEq, Bool.or_self, Bool.or_false, Bool.or_true, Bool.and_true, Bool.and_false, Bool.true_and, Bool.false_and, Option.isNone_none, Option.isNone_some, Option.isSome_some, Option.isSome_none, zbr, zbs, zbt, zbu, zbv, zbw, zbx, zby, zbz, zca, zcb, zcc, zcd, zce, zcf, zcg, zch, zci, zcj, zck, zcl, zcm, zcn, zco, zcp, zcq, zcr, own2, String.reduceAppend, String.reduceBEq, Bool.or_false, Bool.or_true, Bool.or_self, zcs, zct, zcu, zcv, zcw, zcx, zcy, zcz, zda, zdb, zdc, zdd, zde, zdf, zdg, zdh, zdi, zdj, zdk, zdl, zdm, zdn, zdo, zdp, zdq, zdr, zds, zdt, zdu, Option.getD_some, Option.getD_none, zfb, zfc, zfd, zfe, zff, zfg, zfh, zfi, Option.map_some, Option.map_none, Option.bind_some, List.map_cons, List.map_nil, List.cons_append, List.nil_append, ↓reduceIte, Nat.reduceEqDiff, Nat.reduceAdd, decide_true, decide_false, Bool.true_eq_false, Bool.false_eq_true, env0, List.getElem?_cons_zero, List.getElem?_cons_succ, zdv, zdw, zdx, zdy, zdz, zea, zeb, zec, ia22, ld31, zed, zee, zef, zeg, zeh, zei, zej, zek, zel, zem, zen, zeo, zep, zeq, zer, fa_0, fa_1, zes, bd_0, bd_2, zet, fd_1, zeu, Nat.zero_add, zev, List.toList_toArray, len9, ix9, zew, zex, zey, zez, zfa, zeroT, zeroE, e0, e1, e2, e7, k10, k11, k13, k14, cp, f5, ck, cv, ta, opA_trio26, trio26_K, duo26_c, duo26_T, c1, c2, zds, st_Tt, stT_6, st_E, stE_z, il, q1, q2, unA_not', Bool.not_true, ldT_u, faT_4, Nat.reduceAdd, tf, tl, f6, kt, ld_K3, sy, lk, lenTk, i_neqV, b2]
    exact bu9_eq n hn l a1 v hx hv hl kk hk _ _ _ (by first | (simp only [zfi, ↓reduceIte, Nat.reduceEqDiff, e0]; done) | (simp only [zfi, ↓reduceIte, Nat.reduceEqDiff, e0]; rfl)) (by first | (simp only [zfi, ↓reduceIte, Nat.reduceEqDiff, e2]; done) | (simp only [zfi, ↓reduceIte, Nat.reduceEqDiff, e2]; rfl)) (by first | (simp only [zfi, ↓reduceIte, Nat.reduceEqDiff, e7]; done) | (simp only [zfi, ↓reduceIte, Nat.reduceEqDiff, e7]; rfl)) (by first | (simp only [zfi, ↓reduceIte, Nat.reduceEqDiff]; done) | (simp only [zfi, ↓reduceIte, Nat.reduceEqDiff]; rfl)) (by first | (simp only [zfi, ↓reduceIte, Nat.reduceEqDiff]; done) | (simp only [zfi, ↓reduceIte, Nat.reduceEqDiff]; rfl)) (by simp only [zfi, ↓reduceIte, Nat.reduceEqDiff]; exact tm') (by first | (simp only [zfi, ↓reduceIte, Nat.reduceEqDiff]; done) | (simp only [zfi, ↓reduceIte, Nat.reduceEqDiff]; rfl))
  · -- a place that is none
    have hk' : ¬ (1 ≤ kk ∧ kk ≤ ((l.map intT).length : Int)) := by rw [hml]; exact hk
    have c1 := setBad n kk v (by omega) (by omega) (kgOf (l.map intT)) (l.map intT) (by omega) hk'
    have c2 := callQ_trees (f := 10) (vs := [.str sErl, .str sEl, .sl (cellsK [intT kk, tupT (kgOf (l.map intT)) (l.map intT)]) 2 .tight]) rfl (ev2 (n := n) (d := 8) rfl (elBadZ kk (by omega) (by omega) (kgOf (l.map intT)) (l.map intT) (by omega) hk' 9223372036854775808 (by decide)))
    simp only [encT, sErl, sSet] at c1
    simp only [encT, sErl, sEl] at c2
    have w1 : (sErrW == ([101, 114, 114, 111, 114] : List UInt8)) = true := by decide
    have w2 : (sBad == ([98, 97, 100, 97, 114, 103] : List UInt8)) = true := by decide
    by_cases q1 : kk < 1
    · simp only [bu8, bu7, bu6, bu5, bu4, bu3, bu2, bu1, codeBU, seqR, Tryd.f4, Option.getD_some, zaa, zab, zac, zad, zae, zaf, zag, zah, zai, zaj, zak, zal, zam, zan, zao, zap, zaq, zar, zas, zat, zau, zav, zaw, zax, zay, zaz, zba, zbb, zbc, zbd, zbe, zbf, zbg, zbh, zbi, zbj, zbk, zbl, zbm, zbn, keep2, zbp, zbq, Nat.reduceBEq, Bool.or_self, Bool.or_false, Bool.or_true, Bool.and_true, Bool.and_false, Bool.true_and, Bool.false_and, Option.isNone_none, Option.isNone_some, Option.isSome_some, Option.isSome_none, zbr, zbs, zbt, zbu, zbv, zbw, zbx, zby, zbz, zca, zcb, zcc, zcd, zce, zcf, zcg, zch, zci, zcj, zck, zcl, zcm, zcn, zco, zcp, zcq, zcr, own2, String.reduceAppend, String.reduceBEq, Bool.or_false, Bool.or_true, Bool.or_self, zcs, zct, zcu, zcv, zcw, zcx, zcy, zcz, zda, zdb, zdc, zdd, zde, zdf, zdg, zdh, zdi, zdj, zdk, zdl, zdm, zdn, zdo, zdp, zdq, zdr, zds, zdt, zdu, Option.getD_some, Option.getD_none, zfb, zfc, zfd, zfe, zff, zfg, zfh, zfi, Option.map_some, Option.map_none, Option.bind_some, List.map_cons, List.map_nil, List.cons_append, List.nil_append, ↓reduceIte, Nat.reduceEqDiff, Nat.reduceAdd, decide_true, decide_false, Bool.true_eq_false, Bool.false_eq_true, env0, List.getElem?_cons_zero, List.getElem?_cons_succ, zdv, zdw, zdx, zdy, zdz, zea, zeb, zec, ia22, ld31, zed, zee, zef, zeg, zeh, zei, zej, zek, zel, zem, zen, zeo, zep, zeq, zer, fa_0, fa_1, zes, bd_0, bd_2, zet, fd_1, zeu, Nat.zero_add, zev, List.toList_toArray, len9, ix9, zew, zex, zey, zez, zfa, zeroT, zeroE, e0, e1, e2, e7, k10, k11, k13, k14, cp, f5, ck, cv, ta, opA_trio26, trio26_K, duo26_c, duo26_T, c1, c2, zds, st_Tt, stT_6, st_E2, stE_2, il, q1, unA_not', Bool.not_false, faErr_0, faErr_1, ldErr_0, ldErr_4, faT_2, Nat.reduceAdd, s_eqlS, w1, w2, wa]
      exact finish_b _ _ _ _ _ _ _ (by first | (simp only [zfi, ↓reduceIte, Nat.reduceEqDiff]; done) | (simp only [zfi, ↓reduceIte, Nat.reduceEqDiff]; rfl)) rfl
    · have q2 : kk > (l.length : Int) := by omega
      simp only [bu8, bu7, bu6, bu5, bu4, bu3, bu2, bu1, codeBU, seqR, Tryd.f4, Option.getD_some, zaa, zab, zac, zad, zae, zaf, zag, zah, zai, zaj, zak, zal, zam, zan, zao, zap, zaq, zar, zas, zat, zau, zav, zaw, zax, zay, zaz, zba, zbb, zbc, zbd, zbe, zbf, zbg, zbh, zbi, zbj, zbk, zbl, zbm, zbn, keep2, zbp, zbq, Nat.reduceBEq, Bool.or_self, Bool.or_false, Bool.or_true, Bool.and_true, Bool.and_false, Bool.true_and, Bool.false_and, Option.isNone_none, Option.isNone_some, Option.isSome_some, Option.isSome_none, zbr, zbs, zbt, zbu, zbv, zbw, zbx, zby, zbz, zca, zcb, zcc, zcd, zce, zcf, zcg, zch, zci, zcj, zck, zcl, zcm, zcn, zco, zcp, zcq, zcr, own2, String.reduceAppend, String.reduceBEq, Bool.or_false, Bool.or_true, Bool.or_self, zcs, zct, zcu, zcv, zcw, zcx, zcy, zcz, zda, zdb, zdc, zdd, zde, zdf, zdg, zdh, zdi, zdj, zdk, zdl, zdm, zdn, zdo, zdp, zdq, zdr, zds, zdt, zdu, Option.getD_some, Option.getD_none, zfb, zfc, zfd, zfe, zff, zfg, zfh, zfi, Option.map_some, Option.map_none, Option.bind_some, List.map_cons, List.map_nil, List.cons_append, List.nil_append, ↓reduceIte, Nat.reduceEqDiff, Nat.reduceAdd, decide_true, decide_false, Bool.true_eq_false, Bool.false_eq_true, env0, List.getElem?_cons_zero, List.getElem?_cons_succ, zdv, zdw, zdx, zdy, zdz, zea, zeb, zec, ia22, ld31, zed, zee, zef, zeg, zeh, zei, zej, zek, zel, zem, zen, zeo, zep, zeq, zer, fa_0, fa_1, zes, bd_0, bd_2, zet, fd_1, zeu, Nat.zero_add, zev, List.toList_toArray, len9, ix9, zew, zex, zey, zez, zfa, zeroT, zeroE, e0, e1, e2, e7, k10, k11, k13, k14, cp, f5, ck, cv, ta, opA_trio26, trio26_K, duo26_c, duo26_T, c1, c2, zds, st_Tt, stT_6, st_E2, stE_2, il, q1, q2, unA_not', Bool.not_false, faErr_0, faErr_1, ldErr_0, ldErr_4, faT_2, Nat.reduceAdd, s_eqlS, w1, w2, wa]
      exact finish_b _ _ _ _ _ _ _ (by first | (simp only [zfi, ↓reduceIte, Nat.reduceEqDiff]; done) | (simp only [zfi, ↓reduceIte, Nat.reduceEqDiff]; rfl)) rfl
end
end Go.Ab
