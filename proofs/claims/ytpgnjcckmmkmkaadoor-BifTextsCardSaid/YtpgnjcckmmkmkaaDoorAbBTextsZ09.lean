/- Several texts put together: AbbB3, AbbA21, AbbR10, AbbA22, AbMn3, AbMn4, AbMn5, AbMn6, AbMn7, AbbA23, AbbA24, AbbA25, AbbA12, AbbA13, AbbA14, AbbA15, AbbA10, AbbA26, AbbA11, AbbA27, AbbA8, AbbA9o, AbbA28, AbMn8, AbbX1, AbbX2, AbbA19, AbbX3. Conditions: as each part says. -/
import Derived.Test.YtpgnjcckmmkmkaaDoorAbBTextsZ08
import Derived.Test.YtpgnjcckmmkmkaaDoorAbBTextsZ05
import Derived.Test.YtpgnjcckmmkmkaaDoorAbBTextsZ07
import Derived.Laws.Sem
import Derived.Test.YtpgnjcckmmkmkaaDoorAbBTextsZ04
import Derived.Test.YtpgnjcckmmkmkaaDoorAbBTextsZ06
/- bif.number, bif.empty, bif.text; relictref03.List, relictlaw00.Proper. Conditions: lengths in range. -/
namespace Go.Ab
open Go.Proofs
set_option maxRecDepth 100000
set_option linter.unusedSimpArgs false

/-- A small number as the program makes it. -/
def numG (v : Int) : Gk := if v.natAbs = 0 then .n else .l
def smallT (v : Int) : T := .mk 1 (decide (v < 0)) (numG v) (digs v.natAbs) [] 0 .n []
theorem encZ_G (v : Int) : encZ v = .agg [.bool (decide (v < 0)), encL (numG v) (digs v.natAbs)] := rfl
theorem number_eq (n d : Nat) (hn : 100000 ≤ n) (v : Int) (h : I64 v) : evalFn Tryd.prog cfg0 n (d+4) 70 [.tree (.int .i64 v)] = some (.tree (encT (smallT v)), [[]]) := by
  rw [evalFn_go _ Tryd.func70 (by unfold Tryd.f70; rfl) (by unfold Tryd.f70; decide) (Nat.le_of_ble_eq_true (by unfold Tryd.f70; rfl)) (by kernel_rfl)]
  have c1 := fun D st => cOf64 n d hn v h.1 h.2 D st
  have b1 := bdT_1 1 (decide (v < 0)) (numG v) (digs v.natAbs)
  have st1 := fun st p k => st_Tt st p k (smallT v)
  simp only [smallT, cellsT, encC, List.map_nil, cellsK, List.length_nil, gr] at st1
  simp only [zaa, zab, zac, zad, zae, zaf, zag, zah, zai, zaj, zak, zal, zam, zan, zao, zap, zaq, zar, zas, zat, zau, zav, zaw, zax, zay, zaz, zba, zbb, zbc, zbd, zbe, zbf, zbg, zbh, zbi, zbj, Nat.reduceBEq, Bool.or_self, Bool.or_false, Bool.or_true, Bool.and_true, Bool.and_false, Bool.true_and, Bool.false_and, Option.isNone_none, Option.isNone_some, Option.isSome_some, Option.isSome_none, zbk, zbl, zbm, zbn, zbo, zbp, zbq, zbr, zbs, zbt, zbu, zbv, zbw, zbx, zby, zbz, zca, zcb, zcc, zcd, zce, zcf, zcg, zch, zci, zcj, zck, zcl, zcm, zcn, zco, zcp, zcq, zcr, zcs, zct, zcu, zcv, zcw, zcx, zcy, zcz, zda, zdb, zdc, zdd, zde, zdf, Option.getD_some, Option.getD_none, zet, zeu, zev, zew, zex, zey, zez, zfa, Option.map_some, Option.map_none, Option.bind_some, List.map_cons, List.map_nil, List.cons_append, List.nil_append, ↓reduceIte, Nat.reduceEqDiff, Nat.reduceAdd, decide_true, decide_false, Bool.true_eq_false, Bool.false_eq_true, env0, List.getElem?_cons_zero, List.getElem?_cons_succ, zdg, zdh, zdi, zdj, zdk, zdl, zdm, zdn, ia22, ld31, zdo, zdp, zdq, zdr, zds, zdt, zdu, zdv, zdw, zdx, zdy, zdz, zea, zeb, zec, fa_0, fa_1, zed, bd_0, bd_2, zee, fd_1, zef, Nat.zero_add, zeroT, c1, encZ_G, b1, st1]
  have st6 := fun t k p st => stT_6 t k p st (.int .i64 0) (.bool false) (.sl [] 0 .nil) (.str []) (.int .i64 0) (.sl [] 0 .nil) (smallT v)
  simp only [smallT, cellsT, encC, List.map_nil, cellsK, List.length_nil, gr] at st6
  first
    | exact finish_cT _ _ _ _ _ (smallT v) _ _ _ (by first | (simp only [zfa, ↓reduceIte, Nat.reduceEqDiff]; done) | (simp only [zfa, ↓reduceIte, Nat.reduceEqDiff]; rfl)) (by simp only [smallT, cellsT, encC, List.map_nil, cellsK, List.length_nil, gr]; exact (by first | (simp only [zfa, ↓reduceIte, Nat.reduceEqDiff]; done) | (simp only [zfa, ↓reduceIte, Nat.reduceEqDiff]; rfl))) rfl
    | simp only [zaa, zab, zac, zad, zae, zaf, zag, zah, zai, zaj, zak, zal, zam, zan, zao, zap, zaq, zar, zas, zat, zau, zav, zaw, zax, zay, zaz, zba, zbb, zbc, zbd, zbe, zbf, zbg, zbh, zbi, zbj, Nat.reduceBEq, Bool.or_self, Bool.or_false, Bool.or_true, Bool.and_true, Bool.and_false, Bool.true_and, Bool.false_and, Option.isNone_none, Option.isNone_some, Option.isSome_some, Option.isSome_none, zbk, zbl, zbm, zbn, zbo, zbp, zbq, zbr, zbs, zbt, zbu, zbv, zbw, zbx, zby, zbz, zca, zcb, zcc, zcd, zce, zcf, zcg, zch, zci, zcj, zck, zcl, zcm, zcn, zco, zcp, zcq, zcr, zcs, zct, zcu, zcv, zcw, zcx, zcy, zcz, zda, zdb, zdc, zdd, zde, zdf, Option.getD_some, Option.getD_none, zet, zeu, zev, zew, zex, zey, zez, zfa, Option.map_some, Option.map_none, Option.bind_some, List.map_cons, List.map_nil, List.cons_append, List.nil_append, ↓reduceIte, Nat.reduceEqDiff, Nat.reduceAdd, decide_true, decide_false, Bool.true_eq_false, Bool.false_eq_true, env0, List.getElem?_cons_zero, List.getElem?_cons_succ, zdg, zdh, zdi, zdj, zdk, zdl, zdm, zdn, ia22, ld31, zdo, zdp, zdq, zdr, zds, zdt, zdu, zdv, zdw, zdx, zdy, zdz, zea, zeb, zec, fa_0, fa_1, zed, bd_0, bd_2, zee, fd_1, zef, Nat.zero_add, st6]
  exact finish_cT _ _ _ _ _ (smallT v) _ _ _ (by first | (simp only [zfa, ↓reduceIte, Nat.reduceEqDiff]; done) | (simp only [zfa, ↓reduceIte, Nat.reduceEqDiff]; rfl)) (by simp only [smallT, cellsT, encC, List.map_nil, cellsK, List.length_nil, gr]; exact (by first | (simp only [zfa, ↓reduceIte, Nat.reduceEqDiff]; done) | (simp only [zfa, ↓reduceIte, Nat.reduceEqDiff]; rfl))) rfl
theorem bdN3 : buildA Tryd.prog 29 [(0, .int .i64 3)] = some (.agg (cellsT nilT')) := bdT_0 3
theorem st_U (s : St) (p k : Nat) (u : T) : storeA Tryd.prog 29 s (.ptr p k 0) (.agg (cellsT u)) = stT (s p) p k s (cellsT u) := st_Tt s p k u
theorem empty_eq (n d : Nat) : evalFn Tryd.prog cfg0 n (d+1) 56 [] = some (.tree (encT nilT'), []) := by
  rw [evalFn_go _ Tryd.func56 (by unfold Tryd.f56; rfl) (by unfold Tryd.f56; decide) (Nat.le_of_ble_eq_true (by unfold Tryd.f56; rfl)) (by kernel_rfl)]
  simp only [zaa, zab, zac, zad, zae, zaf, zag, zah, zai, zaj, zak, zal, zam, zan, zao, zap, zaq, zar, zas, zat, zau, zav, zaw, zax, zay, zaz, zba, zbb, zbc, zbd, zbe, zbf, zbg, zbh, zbi, zbj, Nat.reduceBEq, Bool.or_self, Bool.or_false, Bool.or_true, Bool.and_true, Bool.and_false, Bool.true_and, Bool.false_and, Option.isNone_none, Option.isNone_some, Option.isSome_some, Option.isSome_none, zbk, zbl, zbm, zbn, zbo, zbp, zbq, zbr, zbs, zbt, zbu, zbv, zbw, zbx, zby, zbz, zca, zcb, zcc, zcd, zce, zcf, zcg, zch, zci, zcj, zck, zcl, zcm, zcn, zco, zcp, zcq, zcr, zcs, zct, zcu, zcv, zcw, zcx, zcy, zcz, zda, zdb, zdc, zdd, zde, zdf, Option.getD_some, Option.getD_none, zet, zeu, zev, zew, zex, zey, zez, zfa, Option.map_some, Option.map_none, Option.bind_some, List.map_cons, List.map_nil, List.cons_append, List.nil_append, ↓reduceIte, Nat.reduceEqDiff, Nat.reduceAdd, decide_true, decide_false, Bool.true_eq_false, Bool.false_eq_true, env0, List.getElem?_cons_zero, List.getElem?_cons_succ, zdg, zdh, zdi, zdj, zdk, zdl, zdm, zdn, ia22, ld31, zdo, zdp, zdq, zdr, zds, zdt, zdu, zdv, zdw, zdx, zdy, zdz, zea, zeb, zec, fa_0, fa_1, zed, bd_0, bd_2, zee, fd_1, zef, Nat.zero_add, zeroT, bdN3, st_Tt, stT_6]
  exact finish_cT _ _ _ _ _ nilT' _ _ _ (by first | (simp only [zfa, ↓reduceIte, Nat.reduceEqDiff]; done) | (simp only [zfa, ↓reduceIte, Nat.reduceEqDiff]; rfl)) (by first | (simp only [zfa, ↓reduceIte, Nat.reduceEqDiff]; done) | (simp only [zfa, ↓reduceIte, Nat.reduceEqDiff]; rfl)) rfl
/-! ### Rows that are handed over -/
theorem argsA_loose (f : FuncId) (s : St) : ∀ (vs : List AV) (j : Nat), vs.all isLent = true → argsA cfg0 f s j vs = some (vs.map fun v => .tree (loosen v))
  | [], _, _ => rfl
  | v :: r, j, h => by
    rw [List.all_cons, Bool.and_eq_true] at h
    have e : argA cfg0 f s j v = some (.tree (loosen v)) := by
      cases v with
      | sl a b g => cases g <;> rfl
      | own => exact nomatch h.1
      | ptr => exact nomatch h.1
      | _ => rfl
    simp only [argsA, e, Option.bind_some, argsA_loose f s r (j + 1) h.2, Option.map_some, List.map_cons]
theorem gives_loose : ∀ vs : List AV, givesL vs (vs.map fun v => Arg.tree (loosen v)) = []
  | [] => rfl
  | v :: r => by
    have e : givesOf v (Arg.tree (loosen v)) = none := by
      cases v with
      | sl a b g => cases g <;> rfl
      | _ => rfl
    simp only [List.map_cons, givesL, e, gives_loose r]
theorem lends_loose : ∀ vs : List AV, vs.all isLent = true → lendsL vs (vs.map fun v => Arg.tree (loosen v)) = []
  | [], _ => rfl
  | v :: r, h => by
    rw [List.all_cons, Bool.and_eq_true] at h
    have e : lendsOf v (Arg.tree (loosen v)) = none := by
      cases v with
      | sl a b g => cases g <;> rfl
      | own => exact nomatch h.1
      | _ => rfl
    simp only [List.map_cons, lendsL, e, lends_loose r h.2]
theorem back_loose (s : St) : ∀ vs : List AV, backA s vs (vs.map fun v => Arg.tree (loosen v)) (vs.map fun _ => []) = some s
  | [] => rfl
  | v :: r => by
    have e : givesOf v (Arg.tree (loosen v)) = none := by
      cases v with
      | sl a b g => cases g <;> rfl
      | _ => rfl
    simp only [List.map_cons, backA, e, back_loose s r]
theorem callA_loose {call : FuncId → List Arg → Option Out} {d : Nat} {s : St} {f : FuncId} {vs vs' : List AV} {v : AV} (ht : vs.all isLent = true) (e : vs.map loosen = vs') (hc : call f (vs'.map Arg.tree) = some (.tree v, vs.map fun _ => [])) : callA cfg0 call d s f vs = some (v, s) := by
  have e2 : (vs.map fun v => Arg.tree (loosen v)) = vs'.map .tree := by rw [← e]; simp
  have h1 := argsA_loose f s vs 0 ht
  have h2 := gives_loose vs
  have h3 := lends_loose vs ht
  have h4 := back_loose s vs
  rw [e2] at h1 h2 h3 h4
  simp only [callA, h1, Option.bind_some, h2, h3, List.nodup_nil, List.not_mem_nil, false_implies, implies_true, and_self, if_true, hc, List.foldl_nil, ite_self, h4, resA]
theorem Ap.lent {s : St} {d : Nat} {x : AV} {us : List T} (h : Ap s d x us) : isLent x = true ∧ loosen x = .sl (cellsK us) us.length (gr (kgOf us)) := by
  rcases h with ⟨rfl, rfl⟩ | ⟨hu, t, rfl, _⟩
  · exact ⟨rfl, rfl⟩
  · exact ⟨rfl, by simp only [loosen, kgOf, if_neg hu, gr]⟩
theorem lent_T (t : T) : isLent (.agg (cellsT t)) = true := rfl
def one26 (x : AV) : Option AV := (fillA (fun i => some (i * 6, 6)) (rep 1 zeroT6) [(0, x)]).map (.sl · 1 .tight)
theorem one26_T (e : T) : one26 (.agg (cellsT e)) = some (.sl (cellsT e) 1 .tight) := bs1T e
theorem one26_K (e : T) : one26 (.agg (cellsT e)) = some (.sl (cellsK [e]) [e].length .tight) := by
  rw [one26_T]; simp [cellsK]
theorem opA_one26 (call : FuncId → List Arg → Option Out) (q : Bool) (d : Option Tmp) (ty : TypeId) (pos : String) (af : Array Edge) (g : Option (Nat × Bool)) (t : Nat) (env : Env) (s : St) (x : Operand) :
    opA Tryd.prog cfg0 call q ⟨d, .buildSlice 22 1 #[(0, x)], ty, pos, af, g⟩ t env s = (one26 (ev env x)).map (·, s) := by
  rw [opA_bs]
  simp only [tkTk, eszT, zeroT, Option.bind_some, List.map_cons, List.map_nil]
  rfl
def txtT (s : List UInt8) : List T := s.map fun c => smallT (c.toNat : Int)
theorem txt_len (s : List UInt8) : (txtT s).length = s.length := List.length_map _
theorem u8_64 (c : UInt8) : I64 (c.toNat : Int) := by
  have := c.toNat_lt
  exact ⟨by omega, by omega⟩
set_option maxHeartbeats 4000000 in
theorem btext_eq (n d : Nat) (hn : 100000 ≤ n) (s : List UInt8) (hs : s.length ≤ 10000) : evalFn Tryd.prog cfg0 n (d+5) 57 [.tree (.str s)] = some (.tree (encT (listT (txtT s) nilT')), [[]]) := by
  rw [evalFn_go _ Tryd.func57 (by unfold Tryd.f57; rfl) (by unfold Tryd.f57; decide) (Nat.le_of_ble_eq_true (by unfold Tryd.f57; rfl)) (by kernel_rfl)]
  have ce := fun D st => callA_trees (cfg := cfg0) (d := D) (s := st) (f := 56) (vs := []) rfl (empty_eq n (d+3))
  simp only [encT] at ce
  simp only [zaa, zab, zac, zad, zae, zaf, zag, zah, zai, zaj, zak, zal, zam, zan, zao, zap, zaq, zar, zas, zat, zau, zav, zaw, zax, zay, zaz, zba, zbb, zbc, zbd, zbe, zbf, zbg, zbh, zbi, zbj, Nat.reduceBEq, Bool.or_self, Bool.or_false, Bool.or_true, Bool.and_true, Bool.and_false, Bool.true_and, Bool.false_and, Option.isNone_none, Option.isNone_some, Option.isSome_some, Option.isSome_none, zbk, zbl, zbm, zbn, zbo, zbp, zbq, zbr, zbs, zbt, zbu, zbv, zbw, zbx, zby, zbz, zca, zcb, zcc, zcd, zce, zcf, zcg, zch, zci, zcj, zck, zcl, zcm, zcn, zco, zcp, zcq, zcr, zcs, zct, zcu, zcv, zcw, zcx, zcy, zcz, zda, zdb, zdc, zdd, zde, zdf, Option.getD_some, Option.getD_none, zet, zeu, zev, zew, zex, zey, zez, zfa, Option.map_some, Option.map_none, Option.bind_some, List.map_cons, List.map_nil, List.cons_append, List.nil_append, ↓reduceIte, Nat.reduceEqDiff, Nat.reduceAdd, decide_true, decide_false, Bool.true_eq_false, Bool.false_eq_true, env0, List.getElem?_cons_zero, List.getElem?_cons_succ, zdg, zdh, zdi, zdj, zdk, zdl, zdm, zdn, ia22, ld31, zdo, zdp, zdq, zdr, zds, zdt, zdu, zdv, zdw, zdx, zdy, zdz, zea, zeb, zec, fa_0, fa_1, zed, bd_0, bd_2, zee, fd_1, zef, Nat.zero_add, zeroT, len9, den_loop]
  refine loop_ends (X := Nat) (fun i env st => env 0 = .str s ∧ env 2 = .ptr 2 1 0 ∧ env 6 = .int .i64 (s.length : Int) ∧ env 7 = .int .i64 (i : Int) ∧ Ap st 17 (env 3) (txtT (s.take i)) ∧ st 2 = ⟨1, .buf [.int .i64 0, .bool false, .sl [] 0 .nil, .str [], .int .i64 0, .sl [] 0 .nil]⟩ ∧ i ≤ s.length) (fun i => s.length - i) (fun _ => (.tree (encT (listT (txtT s) nilT')), [[]])) ?_ n 0 _ _ (by omega) ⟨(by first | (simp only [zfa, ↓reduceIte, Nat.reduceEqDiff, env0, List.getElem?_cons_zero]; done) | (simp only [zfa, ↓reduceIte, Nat.reduceEqDiff, env0, List.getElem?_cons_zero]; rfl)), (by first | (simp only [zfa, ↓reduceIte, Nat.reduceEqDiff]; done) | (simp only [zfa, ↓reduceIte, Nat.reduceEqDiff]; rfl)), (by first | (simp only [zfa, ↓reduceIte, Nat.reduceEqDiff]; done) | (simp only [zfa, ↓reduceIte, Nat.reduceEqDiff]; rfl)), (by first | (simp only [zfa, ↓reduceIte, Nat.reduceEqDiff]; done) | (simp only [zfa, ↓reduceIte, Nat.reduceEqDiff]; rfl)), .inl ⟨rfl, (by first | (simp only [zfa, ↓reduceIte, Nat.reduceEqDiff]; done) | (simp only [zfa, ↓reduceIte, Nat.reduceEqDiff]; rfl))⟩, (by first | (simp only [zfa, ↓reduceIte, Nat.reduceEqDiff]; done) | (simp only [zfa, ↓reduceIte, Nat.reduceEqDiff]; rfl)), Nat.zero_le _⟩
  intro rr i hr ih env st ⟨e0, e2, e6, e7, ap, j2, hi⟩
  by_cases hlt : i < s.length
  · have q1 : (i : Int) < (s.length : Int) := by omega
    have q2 : (0 : Int) ≤ (i : Int) := by omega
    have c8 := (s.getD i 0).toNat_lt
    have cv := fun st => conv5_3 st (s.getD i 0).toNat (by omega)
    have c1 := fun D st => callA_trees (cfg := cfg0) (d := D) (s := st) (f := 70) (vs := [.int .i64 ((s.getD i 0).toNat : Int)]) rfl (number_eq n d hn _ (u8_64 (s.getD i 0)))
    simp only [encT] at c1
    obtain ⟨x', s', a1, a2, a3⟩ := ap.push (by rw [txt_len, List.length_take]; omega) (smallT ((s.getD i 0).toNat : Int))
    have f5 := i_add Tryd.prog 3 (i : Int) 1 (by omega) (by omega)
    have hm : txtT (s.take (i + 1)) = txtT (s.take i) ++ [smallT ((s.getD i 0).toNat : Int)] := by
      rw [List.take_succ_eq_append_getElem hlt, txtT, List.map_append, List.getD_eq_getElem?_getD, List.getElem?_eq_getElem hlt]; rfl
    simp only [zaa, zab, zac, zad, zae, zaf, zag, zah, zai, zaj, zak, zal, zam, zan, zao, zap, zaq, zar, zas, zat, zau, zav, zaw, zax, zay, zaz, zba, zbb, zbc, zbd, zbe, zbf, zbg, zbh, zbi, zbj, Nat.reduceBEq, Bool.or_self, Bool.or_false, Bool.or_true, Bool.and_true, Bool.and_false, Bool.true_and, Bool.false_and, Option.isNone_none, Option.isNone_some, Option.isSome_some, Option.isSome_none, zbk, zbl, zbm, zbn, zbo, zbp, zbq, zbr, zbs, zbt, zbu, zbv, zbw, zbx, zby, zbz, zca, zcb, zcc, zcd, zce, zcf, zcg, zch, zci, zcj, zck, zcl, zcm, zcn, zco, zcp, zcq, zcr, zcs, zct, zcu, zcv, zcw, zcx, zcy, zcz, zda, zdb, zdc, zdd, zde, zdf, Option.getD_some, Option.getD_none, zet, zeu, zev, zew, zex, zey, zez, zfa, Option.map_some, Option.map_none, Option.bind_some, List.map_cons, List.map_nil, List.cons_append, List.nil_append, ↓reduceIte, Nat.reduceEqDiff, Nat.reduceAdd, decide_true, decide_false, Bool.true_eq_false, Bool.false_eq_true, zdg, zdh, zdi, zdj, zdk, zdl, zdm, zdn, ia22, ld31, zdo, zdp, zdq, zdr, zds, zdt, zdu, zdv, zdw, zdx, zdy, zdz, zea, zeb, zec, fa_0, fa_1, zed, bd_0, bd_2, zee, fd_1, zef, Nat.zero_add, zeg, List.toList_toArray, len9, ix9, zeh, zei, zej, zek, zel, e0, e2, e6, e7, q1, q2, and_self, Int.toNat_natCast, cv, c1, opA_one26, one26_T, a1, f5]
    exact ih (i + 1) _ _ (by omega) rfl ⟨(by first | (simp only [zfa, ↓reduceIte, Nat.reduceEqDiff, e0]; done) | (simp only [zfa, ↓reduceIte, Nat.reduceEqDiff, e0]; rfl)), (by first | (simp only [zfa, ↓reduceIte, Nat.reduceEqDiff, e2]; done) | (simp only [zfa, ↓reduceIte, Nat.reduceEqDiff, e2]; rfl)), (by first | (simp only [zfa, ↓reduceIte, Nat.reduceEqDiff, e6]; done) | (simp only [zfa, ↓reduceIte, Nat.reduceEqDiff, e6]; rfl)), (by first | (simp only [zfa, ↓reduceIte, Nat.reduceEqDiff]; done) | (simp only [zfa, ↓reduceIte, Nat.reduceEqDiff]; rfl)), by rw [hm]; exact a2, by rw [a3 2 (by decide)]; exact j2, by omega⟩
  have hie : i = s.length := by omega
  subst hie
  have q1 : ¬ (s.length : Int) < (s.length : Int) := by omega
  rw [List.take_length] at ap
  obtain ⟨hl1, hl2⟩ := ap.lent
  have cl := fun D st => callA_loose (call := evalFn Tryd.prog cfg0 n (d+4)) (d := D) (s := st) (f := 55) (vs := [env 3, encT nilT']) (vs' := [.sl (cellsK (txtT s)) (txtT s).length (gr (kgOf (txtT s))), encT nilT']) (by simp only [List.all_cons, hl1, encT, lent_T, List.all_nil, Bool.and_self]) (by simp only [List.map_cons, hl2]; rfl) (tList_eq n (d+3) (txtT s) _ nilT' (by rw [txt_len]; omega))
  simp only [encT] at cl
  simp only [zaa, zab, zac, zad, zae, zaf, zag, zah, zai, zaj, zak, zal, zam, zan, zao, zap, zaq, zar, zas, zat, zau, zav, zaw, zax, zay, zaz, zba, zbb, zbc, zbd, zbe, zbf, zbg, zbh, zbi, zbj, Nat.reduceBEq, Bool.or_self, Bool.or_false, Bool.or_true, Bool.and_true, Bool.and_false, Bool.true_and, Bool.false_and, Option.isNone_none, Option.isNone_some, Option.isSome_some, Option.isSome_none, zbk, zbl, zbm, zbn, zbo, zbp, zbq, zbr, zbs, zbt, zbu, zbv, zbw, zbx, zby, zbz, zca, zcb, zcc, zcd, zce, zcf, zcg, zch, zci, zcj, zck, zcl, zcm, zcn, zco, zcp, zcq, zcr, zcs, zct, zcu, zcv, zcw, zcx, zcy, zcz, zda, zdb, zdc, zdd, zde, zdf, Option.getD_some, Option.getD_none, zet, zeu, zev, zew, zex, zey, zez, zfa, Option.map_some, Option.map_none, Option.bind_some, List.map_cons, List.map_nil, List.cons_append, List.nil_append, ↓reduceIte, Nat.reduceEqDiff, Nat.reduceAdd, decide_true, decide_false, Bool.true_eq_false, Bool.false_eq_true, zdg, zdh, zdi, zdj, zdk, zdl, zdm, zdn, ia22, ld31, zdo, zdp, zdq, zdr, zds, zdt, zdu, zdv, zdw, zdx, zdy, zdz, zea, zeb, zec, fa_0, fa_1, zed, bd_0, bd_2, zee, fd_1, zef, Nat.zero_add, e0, e2, e6, e7, j2, q1, ce, cl, st_Tt, stT_6]
  exact finish_cT _ _ _ _ _ (listT (txtT s) nilT') _ _ _ (by first | (simp only [zfa, ↓reduceIte, Nat.reduceEqDiff, e2]; done) | (simp only [zfa, ↓reduceIte, Nat.reduceEqDiff, e2]; rfl)) (by first | (simp only [zfa, ↓reduceIte, Nat.reduceEqDiff]; done) | (simp only [zfa, ↓reduceIte, Nat.reduceEqDiff]; rfl)) rfl
end Go.Ab

/- The reference's Int, Neg, Bits; copies of numbers. Conditions: limbs in range. -/
namespace Go.Ab
open Go.Proofs
set_option maxRecDepth 100000
set_option linter.unusedSimpArgs false

theorem bd_2T (b : Bool) (l : List Nat) (p t : Nat) : buildA Tryd.prog 27 [(0, .bool b), (1, .sl (encC l) l.length (.tok p t))] = some (encA b .l l) := by
  simp only [buildA, zef, tk24, pl24, Option.bind_some]
  rfl
end Go.Ab

/- The reference's Div. Conditions: limbs in range, not too many. -/
namespace Go.Ab
open Go.Proofs
set_option maxRecDepth 100000
set_option linter.unusedSimpArgs false

/-- What is left, as the reference gives it: nothing at all where no bit was looked at. -/
def encQ (bits r : Nat) : AV := if bits = 0 then .sl [] 0 .nil else encF r
theorem encQ_num (bits r k : Nat) (hk : k ≤ 1000) (h : r < B ^ k) (h0 : bits = 0 → r = 0) : Num (encQ bits r) r := by
  unfold encQ
  split
  · rename_i hb
    rw [h0 hb]; exact num_nil
  · exact num_F r k hk h
theorem encQ_sh (bits r : Nat) (h0 : bits = 0 → r = 0) : Sh (encQ bits r) (digs r) := by
  unfold encQ
  split
  · rename_i hb
    rw [h0 hb, digs_0]; exact ⟨_, rfl⟩
  · exact sh_L _ _
theorem settle_Q (s : St) (bits r : Nat) : settle s (encQ bits r) = some (encQ bits r, s) := by
  unfold encQ; split <;> rfl
theorem finish_FQ (k : Bool) (xs : List Arg) (t t' : Nat) (env : Env) (s : St) (v bits v' : Nat) (os : List (List AV)) (hv : env t = encF v) (hv' : env t' = encQ bits v') (ho : outsA s 0 xs = some os) :
    finishP Tryd.prog k xs #[.tmp t, .tmp t'] env s = some (.tree (.tup [encF v, encQ bits v']), os) := by
  have e : settle s (encF v) = some (encF v, s) := settle_L s _ _
  simp only [finishP_t1, finishP_t2, finish, List.mapM_cons, List.mapM_nil, hv, hv', Option.pure_def, Option.bind_eq_bind, Option.bind_some, settleL, e, settle_Q, Option.map_some, ho]
theorem encQ_pos (bits r : Nat) (h : bits ≠ 0) : encQ bits r = encF r := if_neg h
theorem finish_nil2 (k : Bool) (xs : List Arg) (t t' : Nat) (env : Env) (s : St) (os : List (List AV)) (hv : env t = .sl [] 0 .nil) (hv' : env t' = .sl [] 0 .nil) (ho : outsA s 0 xs = some os) :
    finishP Tryd.prog k xs #[.tmp t, .tmp t'] env s = some (.tree (.tup [.sl [] 0 .nil, .sl [] 0 .nil]), os) := by
  simp only [finishP_t1, finishP_t2, finish, List.mapM_cons, List.mapM_nil, hv, hv', Option.pure_def, Option.bind_eq_bind, Option.bind_some, settleL, settle, Option.map_some, ho]
def divR (x y : Nat) : AV := if y = 0 then .tup [.sl [] 0 .nil, .sl [] 0 .nil] else .tup [encF (x / y), encQ (blen x) (x % y)]
end Go.Ab

/- The reference's sums, products, quotients of numbers. Conditions: limbs in range. -/
namespace Go.Ab
open Go.Proofs
set_option maxRecDepth 100000
set_option linter.unusedSimpArgs false

theorem madeF_eq (z : Int) : madeF z = .tup [encA (decide ((mkZ z).1 < 0)) (gm z) (digs (mkZ z).1.natAbs), .bool (mkZ z).2] := rfl
theorem tree_F (v : Nat) : isTree (encF v) = true := rfl
section
variable (n d : Nat) (hn : 100000 ≤ n)
include hn
theorem rqMade {w : AV} {v : Nat} (h : Num w v) (ht : isTree w = true) (neg : Bool) : callQ (evalFn Tryd.prog cfg0 n (d+2)) 61 [.bool neg, w] = some (madeF (sgn neg v)) := qRmade n d hn h ht neg
end
theorem encS_num (x y : Nat) (h : y ≤ x) : encS x y = encF (x - y) := if_neg (by omega)
theorem tree_Q (b r : Nat) : isTree (encQ b r) = true := by unfold encQ; split <;> rfl
section
variable (n d : Nat) (hn : 100000 ≤ n) {w w' : AV} {z z' : Int} (hw : IsN w z) (hw' : IsN w' z')
include hn hw hw'
set_option maxHeartbeats 8000000
end
end Go.Ab

/- Bits of numbers with signs, as so many limbs: plain arithmetic. -/
namespace Go.Ab
theorem val_not (l : List Nat) (h : Limbs l) : val (l.map (4294967295 - ·)) + val l + 1 = B ^ l.length := by
  induction l with
  | nil => rfl
  | cons x l ih =>
    have hx := h.head
    have := ih h.tail
    simp only [List.map_cons, val, List.length_cons, Nat.pow_succ]
    rw [← this]
    have hx' : x < 4294967296 := hx
    show 4294967295 - x + 4294967296 * val (l.map (4294967295 - ·)) + (x + 4294967296 * val l) + 1 = (val (l.map (4294967295 - ·)) + val l + 1) * 4294967296
    omega
theorem limbs_not (l : List Nat) : Limbs (l.map (4294967295 - ·)) := fun x hx => by
  obtain ⟨y, _, rfl⟩ := List.mem_map.mp hx
  omega
/-- Two limbs put together. -/
def wordN (op a b : Nat) : Nat := if op = 6 then a &&& b else if op = 7 then a ||| b else a ^^^ b
theorem wordN_lt (op : Nat) {a b n : Nat} (ha : a < 2 ^ n) (hb : b < 2 ^ n) : wordN op a b < 2 ^ n := by
  unfold wordN
  split
  · exact Nat.lt_of_le_of_lt Nat.and_le_left ha
  · split
    · exact Nat.or_lt_two_pow ha hb
    · exact Nat.xor_lt_two_pow ha hb
theorem wordN_split (op a b c d : Nat) (ha : a < B) (hb : b < B) : wordN op (a + B * c) (b + B * d) = wordN op a b + B * wordN op c d := by
  have hB : B = 2 ^ 32 := rfl
  have key : ∀ f : Nat → Nat → Nat, (∀ x y, f x y % 2 ^ 32 = f (x % 2 ^ 32) (y % 2 ^ 32)) → (∀ x y, f x y / 2 ^ 32 = f (x / 2 ^ 32) (y / 2 ^ 32)) → f (a + B * c) (b + B * d) = f a b + B * f c d := by
    intro f h1 h2
    have e := Nat.mod_add_div (f (a + B * c) (b + B * d)) (2 ^ 32)
    rw [h1, h2] at e
    rw [← e, hB]
    have ma : (a + 2 ^ 32 * c) % 2 ^ 32 = a := by rw [Nat.add_mul_mod_self_left]; exact Nat.mod_eq_of_lt ha
    have mb : (b + 2 ^ 32 * d) % 2 ^ 32 = b := by rw [Nat.add_mul_mod_self_left]; exact Nat.mod_eq_of_lt hb
    have da : (a + 2 ^ 32 * c) / 2 ^ 32 = c := by rw [Nat.add_mul_div_left _ _ (by decide), Nat.div_eq_of_lt ha, Nat.zero_add]
    have db : (b + 2 ^ 32 * d) / 2 ^ 32 = d := by rw [Nat.add_mul_div_left _ _ (by decide), Nat.div_eq_of_lt hb, Nat.zero_add]
    rw [ma, mb, da, db]
  unfold wordN
  split
  · exact key (· &&& ·) (fun x y => Nat.and_mod_two_pow) (fun x y => Nat.and_div_two_pow)
  · split
    · exact key (· ||| ·) (fun x y => Nat.or_mod_two_pow) (fun x y => Nat.or_div_two_pow)
    · exact key (· ^^^ ·) (fun x y => Nat.xor_mod_two_pow) (fun x y => Nat.xor_div_two_pow)
theorem wordN_00 (op : Nat) : wordN op 0 0 = 0 := by unfold wordN; split <;> (try split) <;> rfl
theorem val_zip (op : Nat) : ∀ (x y : List Nat), Limbs x → Limbs y → x.length = y.length → val (List.zipWith (wordN op) x y) = wordN op (val x) (val y)
  | [], [], _, _, _ => (wordN_00 op).symm
  | [], _ :: _, _, _, h => by simp at h
  | _ :: _, [], _, _, h => by simp at h
  | a :: x, b :: y, hx, hy, h => by
    have ih := val_zip op x y hx.tail hy.tail (by simpa using h)
    simp only [List.zipWith_cons_cons, val, ih]
    exact (wordN_split op a b (val x) (val y) hx.head hy.head).symm
theorem limbs_zip (op : Nat) (x y : List Nat) (hx : Limbs x) (hy : Limbs y) : Limbs (List.zipWith (wordN op) x y) := by
  induction x generalizing y with
  | nil => intro z hz; simp at hz
  | cons a x ih =>
    cases y with
    | nil => intro z hz; simp at hz
    | cons b y => exact limbs_cons (wordN_lt op (n := 32) hx.head hy.head) (ih y hx.tail hy.tail)
/-- A number's bits, with all bits above as its sign. -/
def tcZ (z : Int) : Nat := if z < 0 then B ^ 13 - z.natAbs else z.natAbs
/-- The number of such bits. -/
def unZ (r : Nat) : Int := if r / B ^ 12 / 2 ^ 31 = 0 then (r : Int) else -((B ^ 13 - r : Nat) : Int)
def logZ (op : Nat) (a b : Int) : Int := unZ (wordN op (tcZ a) (tcZ b))
theorem tcZ_lt (z : Int) (h : z.natAbs < B ^ 12) : tcZ z < B ^ 13 := by
  have : B ^ 12 ≤ B ^ 13 := Nat.pow_le_pow_right (by decide) (by decide)
  unfold tcZ; split <;> omega
theorem top_limb (l : List Nat) (h : Limbs l) (hl : l.length = 13) : val l / B ^ 12 = l.getD 12 0 := by
  have h1 := digit l h 12
  have h2 := val_lt l h
  rw [hl] at h2
  have h3 : val l / B ^ 12 < B := by
    rw [Nat.div_lt_iff_lt_mul (Nat.pow_pos (by decide)), Nat.mul_comm, ← Nat.pow_succ]; exact h2
  rw [Nat.mod_eq_of_lt h3] at h1
  exact h1
end Go.Ab

/- Bits with all ones, with nought, with themselves: plain arithmetic. -/
namespace Go.Ab
section
variable (n x : Nat) (h : x < 2 ^ n)
include h
theorem and_ones : x &&& (2 ^ n - 1) = x := by
  rw [Nat.and_two_pow_sub_one_eq_mod, Nat.mod_eq_of_lt h]
theorem bit_high (i : Nat) (hi : n ≤ i) : x.testBit i = false := Nat.testBit_lt_two_pow (Nat.lt_of_lt_of_le h (Nat.pow_le_pow_right (by decide) hi))
theorem or_ones : x ||| (2 ^ n - 1) = 2 ^ n - 1 := by
  refine Nat.eq_of_testBit_eq fun i => ?_
  rw [Nat.testBit_or, Nat.testBit_two_pow_sub_one]
  by_cases hi : i < n
  · simp [hi]
  · simp [hi, bit_high n x h i (by omega)]
theorem sub_bit (i : Nat) : (2 ^ n - 1 - x).testBit i = (decide (i < n) && !x.testBit i) := by
  rw [show 2 ^ n - 1 - x = 2 ^ n - (x + 1) by omega]
  exact Nat.testBit_two_pow_sub_succ h i
theorem xor_ones : x ^^^ (2 ^ n - 1) = 2 ^ n - 1 - x := by
  refine Nat.eq_of_testBit_eq fun i => ?_
  rw [Nat.testBit_xor, Nat.testBit_two_pow_sub_one, sub_bit n x h]
  by_cases hi : i < n
  · simp [hi]
  · simp [hi, bit_high n x h i (by omega)]
theorem and_not0 : x &&& (2 ^ n - 1 - x) = 0 := by
  refine Nat.eq_of_testBit_eq fun i => ?_
  rw [Nat.testBit_and, sub_bit n x h, Nat.zero_testBit]
  cases x.testBit i <;> simp
end
theorem M_pow : B ^ 13 = 2 ^ (32 * 13) := B_pow 13
theorem tcZ_m1 : tcZ (-1) = B ^ 13 - 1 := by unfold tcZ; rw [if_pos (by decide)]; rfl
theorem tcZ_0 : tcZ 0 = 0 := rfl
theorem unZ_0 : unZ 0 = 0 := by
  unfold unZ
  rw [Nat.zero_div, Nat.zero_div, if_pos rfl]; rfl
theorem unZ_tcZ (z : Int) (h : z.natAbs < B ^ 12) : unZ (tcZ z) = z := by
  have hM : B ^ 13 = B ^ 12 * B := Nat.pow_succ ..
  have hp : 0 < B ^ 12 := Nat.pow_pos (by decide)
  have hB : B = 4294967296 := rfl
  unfold unZ tcZ
  by_cases hz : z < 0
  · rw [if_pos hz]
    have h1 : 4294967295 ≤ (B ^ 13 - z.natAbs) / B ^ 12 := by
      rw [Nat.le_div_iff_mul_le hp, hM]
      generalize B ^ 12 = q at *
      show 4294967295 * q ≤ q * 4294967296 - z.natAbs
      omega
    have h2 : (B ^ 13 - z.natAbs) / B ^ 12 / 2 ^ 31 ≠ 0 := by
      generalize (B ^ 13 - z.natAbs) / B ^ 12 = r at *
      have : (2 : Nat) ^ 31 = 2147483648 := by decide
      omega
    rw [if_neg h2]
    have h3 : z.natAbs < B ^ 13 := Nat.lt_of_lt_of_le h (Nat.pow_le_pow_right (by decide) (by decide))
    omega
  · rw [if_neg hz, Nat.div_eq_of_lt h, Nat.zero_div, if_pos rfl]; omega
theorem tcZ_not (z : Int) (h : z.natAbs < B ^ 12) : tcZ (-1 - z) = B ^ 13 - 1 - tcZ z := by
  have h3 : z.natAbs < B ^ 13 := Nat.lt_of_lt_of_le h (Nat.pow_le_pow_right (by decide) (by decide))
  unfold tcZ
  by_cases hz : z < 0
  · rw [if_pos hz, if_neg (by omega)]; omega
  · rw [if_neg hz, if_pos (by omega)]; omega
section
variable (z : Int) (h : z.natAbs < B ^ 12)
include h
theorem tc_lt : tcZ z < 2 ^ (32 * 13) := by have := tcZ_lt z h; rw [M_pow] at this; exact this
theorem and_all : logZ 6 z (-1) = z := by
  rw [logZ, tcZ_m1, wordN, if_pos rfl, M_pow, and_ones _ _ (tc_lt z h), unZ_tcZ z h]
theorem or_all : logZ 7 z (-1) = -1 := by
  rw [logZ, tcZ_m1, wordN, if_neg (by decide), if_pos rfl, M_pow, or_ones _ _ (tc_lt z h), ← M_pow, ← tcZ_m1]
  exact unZ_tcZ (-1) (Nat.one_lt_pow (by decide) (by decide))
theorem xor_all (h' : (-1 - z).natAbs < B ^ 12) : logZ 8 z (-1) = -1 - z := by
  rw [logZ, tcZ_m1, wordN, if_neg (by decide), if_neg (by decide), M_pow, xor_ones _ _ (tc_lt z h), ← M_pow, ← tcZ_not z h]
  exact unZ_tcZ _ h'
omit h in
theorem and_none : logZ 6 z 0 = 0 := by
  rw [logZ, tcZ_0, wordN, if_pos rfl, Nat.and_zero, unZ_0]
theorem or_none : logZ 7 z 0 = z := by
  rw [logZ, tcZ_0, wordN, if_neg (by decide), if_pos rfl, Nat.or_zero, unZ_tcZ z h]
theorem xor_none : logZ 8 z 0 = z := by
  rw [logZ, tcZ_0, wordN, if_neg (by decide), if_neg (by decide), Nat.xor_zero, unZ_tcZ z h]
omit h in
theorem xor_same : logZ 8 z z = 0 := by
  rw [logZ, wordN, if_neg (by decide), if_neg (by decide), Nat.xor_self, unZ_0]
theorem and_not : logZ 6 z (-1 - z) = 0 := by
  rw [logZ, tcZ_not z h, wordN, if_pos rfl, M_pow, and_not0 _ _ (tc_lt z h), unZ_0]
end
end Go.Ab

/- And, or, exclusive or together, of numbers with room: plain arithmetic. -/
namespace Go.Ab
theorem wordN_at (n op a b c d : Nat) (ha : a < 2 ^ n) (hb : b < 2 ^ n) : wordN op (a + 2 ^ n * c) (b + 2 ^ n * d) = wordN op a b + 2 ^ n * wordN op c d := by
  have hp := Nat.two_pow_pos n
  have key : ∀ f : Nat → Nat → Nat, (∀ x y, f x y % 2 ^ n = f (x % 2 ^ n) (y % 2 ^ n)) → (∀ x y, f x y / 2 ^ n = f (x / 2 ^ n) (y / 2 ^ n)) → f (a + 2 ^ n * c) (b + 2 ^ n * d) = f a b + 2 ^ n * f c d := by
    intro f h1 h2
    have e := Nat.mod_add_div (f (a + 2 ^ n * c) (b + 2 ^ n * d)) (2 ^ n)
    rw [h1, h2] at e
    rw [← e]
    have ma : (a + 2 ^ n * c) % 2 ^ n = a := by rw [Nat.add_mul_mod_self_left]; exact Nat.mod_eq_of_lt ha
    have mb : (b + 2 ^ n * d) % 2 ^ n = b := by rw [Nat.add_mul_mod_self_left]; exact Nat.mod_eq_of_lt hb
    have da : (a + 2 ^ n * c) / 2 ^ n = c := by rw [Nat.add_mul_div_left _ _ hp, Nat.div_eq_of_lt ha, Nat.zero_add]
    have db : (b + 2 ^ n * d) / 2 ^ n = d := by rw [Nat.add_mul_div_left _ _ hp, Nat.div_eq_of_lt hb, Nat.zero_add]
    rw [ma, mb, da, db]
  unfold wordN
  split
  · exact key (· &&& ·) (fun x y => Nat.and_mod_two_pow) (fun x y => Nat.and_div_two_pow)
  · split
    · exact key (· ||| ·) (fun x y => Nat.or_mod_two_pow) (fun x y => Nat.or_div_two_pow)
    · exact key (· ^^^ ·) (fun x y => Nat.xor_mod_two_pow) (fun x y => Nat.xor_div_two_pow)
theorem wordN_6 (x y : Nat) : wordN 6 x y = x &&& y := by rw [wordN, if_pos rfl]
theorem wordN_7 (x y : Nat) : wordN 7 x y = x ||| y := by rw [wordN, if_neg (by decide), if_pos rfl]
theorem wordN_8 (x y : Nat) : wordN 8 x y = x ^^^ y := by rw [wordN, if_neg (by decide), if_neg (by decide)]
theorem bits_sum (x : Nat) : ∀ y, wordN 6 x y + wordN 7 x y = x + y ∧ wordN 6 x y + wordN 8 x y = wordN 7 x y := by
  induction x using Nat.strongRecOn with
  | ind x ih =>
    intro y
    by_cases hx : x = 0
    · subst hx; simp [wordN_6, wordN_7, wordN_8]
    · obtain ⟨h1, h2⟩ := ih (x / 2) (Nat.div_lt_self (by omega) (by decide)) (y / 2)
      have ex : x = x % 2 + 2 ^ 1 * (x / 2) := by omega
      have ey : y = y % 2 + 2 ^ 1 * (y / 2) := by omega
      have s := fun op => wordN_at 1 op (x % 2) (y % 2) (x / 2) (y / 2) (by omega) (by omega)
      rw [← ex, ← ey] at s
      rw [s 6, s 7, s 8]
      have hb : (x % 2 = 0 ∨ x % 2 = 1) ∧ (y % 2 = 0 ∨ y % 2 = 1) := by omega
      have t : wordN 6 (x % 2) (y % 2) + wordN 7 (x % 2) (y % 2) = x % 2 + y % 2 ∧ wordN 6 (x % 2) (y % 2) + wordN 8 (x % 2) (y % 2) = wordN 7 (x % 2) (y % 2) := by
        obtain ⟨hb1 | hb1, hb2 | hb2⟩ := hb <;> rw [hb1, hb2] <;> decide
      omega
/-- Below 0? -/
def sgB (z : Int) : Nat := if z < 0 then 1 else 0
def loB (z : Int) : Nat := if z < 0 then B ^ 5 - z.natAbs else z.natAbs
theorem M_split : B ^ 13 = B ^ 5 * B ^ 8 := by rw [← Nat.pow_add]
theorem tc_split (z : Int) (h : z.natAbs < B ^ 5) : tcZ z = loB z + B ^ 5 * (sgB z * (B ^ 8 - 1)) ∧ loB z < B ^ 5 + 1 := by
  have hq : 0 < B ^ 8 := Nat.pow_pos (by decide)
  unfold tcZ loB sgB
  rw [M_split]
  generalize B ^ 5 = p at *
  generalize B ^ 8 = q at *
  by_cases hz : z < 0
  · rw [if_pos hz, if_pos hz, if_pos hz, Nat.one_mul, Nat.mul_sub, Nat.mul_one]
    have : p * 1 ≤ p * q := Nat.mul_le_mul_left _ hq
    omega
  · rw [if_neg hz, if_neg hz, if_neg hz, Nat.zero_mul, Nat.mul_zero]; omega
theorem lo_lt (z : Int) (h : z.natAbs < B ^ 5) (h0 : z ≠ 0 ∨ True) : loB z < B ^ 5 := by
  unfold loB
  by_cases hz : z < 0
  · rw [if_pos hz]; omega
  · rw [if_neg hz]; exact h
theorem int_split (z : Int) (h : z.natAbs < B ^ 5) : z = (loB z : Int) - (sgB z : Int) * ((B ^ 5 : Nat) : Int) := by
  unfold loB sgB
  by_cases hz : z < 0
  · rw [if_pos hz, if_pos hz]; omega
  · rw [if_neg hz, if_neg hz]; omega
theorem sg_cases (z : Int) : sgB z = 0 ∨ sgB z = 1 := by unfold sgB; split <;> simp
theorem ones_op (n op a b : Nat) (ha : a = 0 ∨ a = 1) (hb : b = 0 ∨ b = 1) : wordN op (a * (2 ^ n - 1)) (b * (2 ^ n - 1)) = wordN op a b * (2 ^ n - 1) ∧ (wordN op a b = 0 ∨ wordN op a b = 1) := by
  have hf : 2 ^ n - 1 < 2 ^ n := by have := Nat.two_pow_pos n; omega
  generalize hF : 2 ^ n - 1 = F at *
  have e1 : F &&& F = F := Nat.and_self F
  have e2 : F ||| F = F := Nat.or_self F
  unfold wordN
  rcases ha with rfl | rfl <;> rcases hb with rfl | rfl <;> (split <;> (try split)) <;> simp
theorem log_split (op : Nat) (a b : Int) (ha : a.natAbs < B ^ 5) (hb : b.natAbs < B ^ 5) : logZ op a b = (wordN op (loB a) (loB b) : Int) - (wordN op (sgB a) (sgB b) : Int) * ((B ^ 5 : Nat) : Int) ∧ wordN op (loB a) (loB b) < B ^ 5 ∧ (wordN op (sgB a) (sgB b) = 0 ∨ wordN op (sgB a) (sgB b) = 1) := by
  obtain ⟨ea, _⟩ := tc_split a ha
  obtain ⟨eb, _⟩ := tc_split b hb
  have la := lo_lt a ha (.inr trivial)
  have lb := lo_lt b hb (.inr trivial)
  have p5 : B ^ 5 = 2 ^ (32 * 5) := B_pow 5
  have p8 : B ^ 8 = 2 ^ (32 * 8) := B_pow 8
  have hw := wordN_lt op (n := 32 * 5) (by rw [← p5]; exact la) (by rw [← p5]; exact lb)
  rw [← p5] at hw
  have hs := wordN_at (32 * 5) op (loB a) (loB b) (sgB a * (B ^ 8 - 1)) (sgB b * (B ^ 8 - 1)) (by rw [← p5]; exact la) (by rw [← p5]; exact lb)
  rw [← p5, ← ea, ← eb] at hs
  obtain ⟨o1, o2⟩ := ones_op (32 * 8) op (sgB a) (sgB b) (sg_cases a) (sg_cases b)
  rw [← p8] at o1
  rw [o1] at hs
  refine ⟨?_, hw, o2⟩
  rw [logZ, hs]
  generalize wordN op (loB a) (loB b) = rl at *
  have h5 : B ^ 5 < B ^ 12 := Nat.pow_lt_pow_right (by decide) (by decide)
  have hrl : rl < B ^ 12 := Nat.lt_trans hw h5
  rcases o2 with o2 | o2
  · rw [o2, Nat.zero_mul, Nat.mul_zero, Nat.add_zero, unZ, Nat.div_eq_of_lt hrl, Nat.zero_div, if_pos rfl]; simp
  · rw [o2, Nat.one_mul]
    have hq : 0 < B ^ 8 := Nat.pow_pos (by decide)
    have hM := M_split
    have e : rl + B ^ 5 * (B ^ 8 - 1) = B ^ 13 - (B ^ 5 - rl) := by
      rw [hM, Nat.mul_sub, Nat.mul_one]
      have : B ^ 5 * 1 ≤ B ^ 5 * B ^ 8 := Nat.mul_le_mul_left _ hq
      omega
    rw [e]
    have hu := unZ_tcZ (-((B ^ 5 - rl : Nat) : Int)) (by rw [Int.natAbs_neg, Int.natAbs_natCast]; exact Nat.lt_of_le_of_lt (Nat.sub_le _ _) h5)
    have ht : tcZ (-((B ^ 5 - rl : Nat) : Int)) = B ^ 13 - (B ^ 5 - rl) := by
      unfold tcZ
      rw [if_pos (by omega), Int.natAbs_neg, Int.natAbs_natCast]
    rw [ht] at hu
    rw [hu]; omega
theorem log_fit (op : Nat) (a b : Int) (ha : a.natAbs < B ^ 5) (hb : b.natAbs < B ^ 5) : (logZ op a b).natAbs ≤ B ^ 5 := by
  obtain ⟨e, h1, h2⟩ := log_split op a b ha hb
  rcases h2 with h2 | h2 <;> rw [h2] at e <;> omega
theorem log_sum (a b : Int) (ha : a.natAbs < B ^ 5) (hb : b.natAbs < B ^ 5) : logZ 6 a b + logZ 7 a b = a + b := by
  obtain ⟨e6, _⟩ := log_split 6 a b ha hb
  obtain ⟨e7, _⟩ := log_split 7 a b ha hb
  have s1 := (bits_sum (loB a) (loB b)).1
  have s2 := (bits_sum (sgB a) (sgB b)).1
  have ea := int_split a ha
  have eb := int_split b hb
  rw [e6, e7]
  generalize ((B ^ 5 : Nat) : Int) = p at *
  have t1 : (wordN 6 (loB a) (loB b) : Int) + (wordN 7 (loB a) (loB b) : Int) = (loB a : Int) + (loB b : Int) := by omega
  have t2 : (wordN 6 (sgB a) (sgB b) : Int) + (wordN 7 (sgB a) (sgB b) : Int) = (sgB a : Int) + (sgB b : Int) := by omega
  have t3 : (wordN 6 (sgB a) (sgB b) : Int) * p + (wordN 7 (sgB a) (sgB b) : Int) * p = (sgB a : Int) * p + (sgB b : Int) * p := by rw [← Int.add_mul, ← Int.add_mul, t2]
  omega
theorem log_diff (a b : Int) (ha : a.natAbs < B ^ 5) (hb : b.natAbs < B ^ 5) : logZ 7 a b - logZ 6 a b = logZ 8 a b := by
  obtain ⟨e6, _⟩ := log_split 6 a b ha hb
  obtain ⟨e7, _⟩ := log_split 7 a b ha hb
  obtain ⟨e8, _⟩ := log_split 8 a b ha hb
  have s1 := (bits_sum (loB a) (loB b)).2
  have s2 := (bits_sum (sgB a) (sgB b)).2
  rw [e6, e7, e8]
  generalize ((B ^ 5 : Nat) : Int) = p at *
  have t2 : (wordN 6 (sgB a) (sgB b) : Int) + (wordN 8 (sgB a) (sgB b) : Int) = (wordN 7 (sgB a) (sgB b) : Int) := by omega
  have t3 : (wordN 6 (sgB a) (sgB b) : Int) * p + (wordN 8 (sgB a) (sgB b) : Int) * p = (wordN 7 (sgB a) (sgB b) : Int) * p := by rw [← Int.add_mul, t2]
  omega
end Go.Ab

/- Bits of numbers below 0, in so many bits as have room. Pure mathematics. -/
namespace Go.Ab
def loN (n : Nat) (z : Int) : Nat := if z < 0 then 2 ^ n - z.natAbs else z.natAbs
def logW (n op : Nat) (a b : Int) : Int := (wordN op (loN n a) (loN n b) : Int) - (wordN op (sgB a) (sgB b) : Int) * ((2 ^ n : Nat) : Int)
theorem loN_lt {n : Nat} {z : Int} (h : z.natAbs < 2 ^ n) : loN n z < 2 ^ n := by
  unfold loN
  by_cases hz : z < 0
  · rw [if_pos hz]; omega
  · rw [if_neg hz]; exact h
theorem loN_more (n m : Nat) {z : Int} (h : z.natAbs < 2 ^ n) : loN (n + m) z = loN n z + 2 ^ n * (sgB z * (2 ^ m - 1)) := by
  have hq : 0 < 2 ^ m := Nat.two_pow_pos m
  unfold loN sgB
  rw [Nat.pow_add]
  generalize 2 ^ n = p at *
  generalize 2 ^ m = q at *
  by_cases hz : z < 0
  · rw [if_pos hz, if_pos hz, if_pos hz, Nat.one_mul, Nat.mul_sub, Nat.mul_one]
    have : p * 1 ≤ p * q := Nat.mul_le_mul_left _ hq
    omega
  · rw [if_neg hz, if_neg hz, if_neg hz, Nat.zero_mul, Nat.mul_zero]; omega
theorem word_more (n m op : Nat) {a b : Int} (ha : a.natAbs < 2 ^ n) (hb : b.natAbs < 2 ^ n) : wordN op (loN (n + m) a) (loN (n + m) b) = wordN op (loN n a) (loN n b) + 2 ^ n * (wordN op (sgB a) (sgB b) * (2 ^ m - 1)) := by
  rw [loN_more n m ha, loN_more n m hb, wordN_at n op _ _ _ _ (loN_lt ha) (loN_lt hb), (ones_op m op (sgB a) (sgB b) (sg_cases a) (sg_cases b)).1]
theorem word_sg (op : Nat) (a b : Int) : wordN op (sgB a) (sgB b) = 0 ∨ wordN op (sgB a) (sgB b) = 1 := (ones_op 1 op (sgB a) (sgB b) (sg_cases a) (sg_cases b)).2
theorem word_lo (n op : Nat) {a b : Int} (ha : a.natAbs < 2 ^ n) (hb : b.natAbs < 2 ^ n) : wordN op (loN n a) (loN n b) < 2 ^ n := wordN_lt op (loN_lt ha) (loN_lt hb)
theorem logW_more (n m op : Nat) {a b : Int} (ha : a.natAbs < 2 ^ n) (hb : b.natAbs < 2 ^ n) : logW (n + m) op a b = logW n op a b := by
  unfold logW
  rw [word_more n m op ha hb]
  have hq : 0 < 2 ^ m := Nat.two_pow_pos m
  rcases word_sg op a b with h | h
  · rw [h]; simp
  · rw [h, Nat.one_mul, Nat.pow_add, Nat.mul_sub, Nat.mul_one]
    have h1 : 2 ^ n * 1 ≤ 2 ^ n * 2 ^ m := Nat.mul_le_mul_left _ hq
    omega
theorem logZ_k (k op : Nat) (p12 : B ^ 12 = 2 ^ k) (p13 : B ^ 13 = 2 ^ (k + 32)) {a b : Int} (ha : a.natAbs < 2 ^ k) (hb : b.natAbs < 2 ^ k) : logZ op a b = logW k op a b := by
  have ta : ∀ z : Int, tcZ z = loN (k + 32) z := fun z => by unfold tcZ loN; rw [p13]
  unfold logZ
  rw [ta, ta, word_more k 32 op ha hb]
  have hw := word_lo k op ha hb
  unfold logW unZ
  rw [p13, p12, Nat.pow_add]
  generalize wordN op (loN k a) (loN k b) = W at *
  have hp : 0 < 2 ^ k := Nat.two_pow_pos _
  generalize (2 : Nat) ^ k = p at *
  rcases word_sg op a b with h | h
  · rw [h, Nat.zero_mul, Nat.mul_zero, Nat.add_zero, Nat.div_eq_of_lt hw, Nat.zero_div, if_pos rfl]; simp
  · rw [h, Nat.one_mul, Nat.add_mul_div_left _ _ hp, Nat.div_eq_of_lt hw, Nat.zero_add, if_neg (by decide)]
    omega
theorem logZ_n (n op : Nat) (hn : n ≤ 32 * 12) {a b : Int} (ha : a.natAbs < 2 ^ n) (hb : b.natAbs < 2 ^ n) : logZ op a b = logW n op a b := by
  obtain ⟨k, hk⟩ : ∃ k, k = 32 * 12 := ⟨_, rfl⟩
  have p12 : B ^ 12 = 2 ^ k := by rw [hk]; exact B_pow 12
  have p13 : B ^ 13 = 2 ^ (k + 32) := by rw [show k + 32 = 32 * 13 by omega]; exact B_pow 13
  rw [← hk] at hn
  obtain ⟨m, rfl⟩ : ∃ m, k = n + m := ⟨k - n, by omega⟩
  have hp : (2 : Nat) ^ n ≤ 2 ^ (n + m) := Nat.pow_le_pow_right (by decide) (Nat.le_add_right _ _)
  rw [logZ_k (n + m) op p12 p13 (Nat.lt_of_lt_of_le ha hp) (Nat.lt_of_lt_of_le hb hp)]
  exact logW_more n m op ha hb
theorem logW_fit (n op : Nat) {a b : Int} (ha : a.natAbs < 2 ^ n) (hb : b.natAbs < 2 ^ n) : (logW n op a b).natAbs ≤ 2 ^ n := by
  have hw := word_lo n op ha hb
  unfold logW
  generalize (2 : Nat) ^ n = p at *
  rcases word_sg op a b with h | h <;> rw [h] <;> omega
/-- In 64 bits. -/
theorem ofInt64 (z : Int) (h : z.natAbs < 2 ^ 63) : (BitVec.ofInt 64 z).toNat = loN 64 z := by
  rw [BitVec.toNat_ofInt]
  unfold loN
  have e63 : (2 : Nat) ^ 63 = 9223372036854775808 := by decide
  have e64 : (2 : Nat) ^ 64 = 18446744073709551616 := by decide
  rw [e63] at h
  rw [e64]
  split <;> omega
theorem wrap64 (r : Nat) (h : r < 18446744073709551616) : IntKind.i64.wrap (r : Int) = if r < 9223372036854775808 then (r : Int) else (r : Int) - 18446744073709551616 := by
  have e : IntKind.i64.wrap (r : Int) = (if (r : Int) % 18446744073709551616 ≥ 9223372036854775808 then (r : Int) % 18446744073709551616 - 18446744073709551616 else (r : Int) % 18446744073709551616) := by simp [IntKind.wrap, IntKind.signed, IntKind.bits]
  rw [e]
  split <;> split <;> omega
theorem wrap_log (op : Nat) {a b : Int} (ha : a.natAbs < 2 ^ 63) (hb : b.natAbs < 2 ^ 63) : IntKind.i64.wrap ((wordN op (loN 64 a) (loN 64 b) : Nat) : Int) = logW 63 op a b := by
  have hw := word_lo 63 op ha hb
  have hm := word_more 63 1 op ha hb
  have e63 : (2 : Nat) ^ 63 = 9223372036854775808 := by decide
  unfold logW
  rw [show (64 : Nat) = 63 + 1 from rfl, hm]
  rw [e63] at hw ⊢
  generalize wordN op (loN 63 a) (loN 63 b) = W at *
  rcases word_sg op a b with h | h
  · rw [h, wrap64 _ (by omega)]; split <;> omega
  · rw [h, wrap64 _ (by omega)]; split <;> omega
theorem and64 {a b : Int} (ha : a.natAbs < 2 ^ 63) (hb : b.natAbs < 2 ^ 63) : IntKind.i64.wrap ((BitVec.ofInt 64 a &&& BitVec.ofInt 64 b).toNat : Int) = logW 63 6 a b := by
  rw [BitVec.toNat_and, ofInt64 a ha, ofInt64 b hb, ← wordN_6, wrap_log 6 ha hb]
theorem or64 {a b : Int} (ha : a.natAbs < 2 ^ 63) (hb : b.natAbs < 2 ^ 63) : IntKind.i64.wrap ((BitVec.ofInt 64 a ||| BitVec.ofInt 64 b).toNat : Int) = logW 63 7 a b := by
  rw [BitVec.toNat_or, ofInt64 a ha, ofInt64 b hb, ← wordN_7, wrap_log 7 ha hb]
theorem xor64 {a b : Int} (ha : a.natAbs < 2 ^ 63) (hb : b.natAbs < 2 ^ 63) : IntKind.i64.wrap ((BitVec.ofInt 64 a ^^^ BitVec.ofInt 64 b).toNat : Int) = logW 63 8 a b := by
  rw [BitVec.toNat_xor, ofInt64 a ha, ofInt64 b hb, ← wordN_8, wrap_log 8 ha hb]
end Go.Ab

/- The reference's bits of numbers. Pure mathematics. -/
namespace Go.Ab
def f3 (op : Nat) (p q : Bool) : Bool := if op = 6 then p && q else if op = 7 then p || q else !(p == q)
theorem word_bit (op a b y : Nat) : (wordN op a b).testBit y = f3 op (a.testBit y) (b.testBit y) := by
  unfold wordN f3
  split
  · rw [Nat.testBit_and]
  · split
    · rw [Nat.testBit_or]
    · rw [Nat.testBit_xor]
      cases a.testBit y <;> cases b.testBit y <;> rfl
def lessN (z : Int) : Nat := if z < 0 then z.natAbs - 1 else z.natAbs
def bitZ (z : Int) (y : Nat) : Bool := !((lessN z).testBit y == decide (z < 0))
theorem less_lt {N : Nat} {z : Int} (h : z.natAbs < 2 ^ N) : lessN z < 2 ^ N := by unfold lessN; split <;> omega
theorem lo_bit {N y : Nat} {z : Int} (h : z.natAbs < 2 ^ N) (hy : y < N) : (loN N z).testBit y = bitZ z y := by
  unfold bitZ loN
  by_cases hz : z < 0
  · rw [if_pos hz, decide_eq_true hz]
    have e : 2 ^ N - z.natAbs = 2 ^ N - 1 - lessN z := by unfold lessN; rw [if_pos hz]; omega
    rw [e, sub_bit N (lessN z) (less_lt h) y, decide_eq_true hy]
    cases (lessN z).testBit y <;> rfl
  · rw [if_neg hz, decide_eq_false hz]
    have e : z.natAbs = lessN z := by unfold lessN; rw [if_neg hz]
    rw [e]
    cases (lessN z).testBit y <;> rfl
def joinZ (op : Nat) (a b : Int) : Bool := f3 op (decide (a < 0)) (decide (b < 0))
theorem word_join (op : Nat) (a b : Int) : wordN op (sgB a) (sgB b) = if joinZ op a b = true then 1 else 0 := by
  unfold joinZ sgB
  by_cases ha : a < 0 <;> by_cases hb : b < 0 <;> simp only [ha, hb, if_true, if_false, decide_true, decide_false] <;> (unfold wordN f3; by_cases h6 : op = 6 <;> by_cases h7 : op = 7 <;> simp only [h6, h7, if_true, if_false] <;> rfl)
def tgt (N op : Nat) (a b : Int) : Nat := if joinZ op a b = true then 2 ^ N - 1 - wordN op (loN N a) (loN N b) else wordN op (loN N a) (loN N b)
section
variable {N op : Nat} {a b : Int} (ha : a.natAbs < 2 ^ N) (hb : b.natAbs < 2 ^ N)
include ha hb
theorem tgt_lt : tgt N op a b < 2 ^ N := by
  have := word_lo N op ha hb
  unfold tgt; split <;> omega
theorem tgt_bit {y : Nat} (hy : y < N) : (tgt N op a b).testBit y = !(f3 op (bitZ a y) (bitZ b y) == joinZ op a b) := by
  have hw := word_lo N op ha hb
  have e : (wordN op (loN N a) (loN N b)).testBit y = f3 op (bitZ a y) (bitZ b y) := by rw [word_bit, lo_bit ha hy, lo_bit hb hy]
  unfold tgt
  by_cases hj : joinZ op a b = true
  · rw [if_pos hj, hj, sub_bit N _ hw y, decide_eq_true hy, e]
    cases f3 op (bitZ a y) (bitZ b y) <;> rfl
  · rw [if_neg hj, e, eq_false_of_ne_true hj]
    cases f3 op (bitZ a y) (bitZ b y) <;> rfl
theorem tgt_val : sgn (joinZ op a b) (if joinZ op a b = true then tgt N op a b + 1 else tgt N op a b) = logW N op a b := by
  have hw := word_lo N op ha hb
  unfold logW
  rw [word_join]
  unfold tgt
  by_cases hj : joinZ op a b = true
  · rw [if_pos hj, if_pos hj, if_pos hj, hj]
    unfold sgn
    simp only [if_true]
    omega
  · rw [if_neg hj, if_neg hj, if_neg hj, eq_false_of_ne_true hj]
    unfold sgn
    simp
end
theorem logZ_any (N op : Nat) {a b : Int} (ha : a.natAbs < 2 ^ N) (hb : b.natAbs < 2 ^ N) (ha' : a.natAbs < B ^ 12) (hb' : b.natAbs < B ^ 12) : logZ op a b = logW N op a b := by
  obtain ⟨k, hk⟩ : ∃ k, k = 32 * 12 := ⟨_, rfl⟩
  rcases Nat.lt_or_ge k N with h | h
  · have p12 : B ^ 12 = 2 ^ k := by rw [hk]; exact B_pow 12
    rw [p12] at ha' hb'
    rw [logZ_n k op (by omega) ha' hb']
    obtain ⟨m, rfl⟩ : ∃ m, N = k + m := ⟨N - k, by omega⟩
    exact (logW_more k m op ha' hb').symm
  · exact logZ_n N op (by omega) ha hb
/-- One bit more. -/
theorem or_low (o : List Nat) (h : Limbs o) (y : Nat) (hv : val o < 2 ^ y) : (o.getD (y / 32) 0 ||| 2 ^ (y % 32)) = o.getD (y / 32) 0 + 2 ^ (y % 32) ∧ (o.getD (y / 32) 0 ||| 2 ^ (y % 32)) < 4294967296 := by
  have hr : y % 32 < 32 := Nat.mod_lt _ (by decide)
  constructor
  · have hd := digit o h (y / 32)
    have e : 2 ^ y = B ^ (y / 32) * 2 ^ (y % 32) := by rw [B_pow, ← Nat.pow_add, Nat.div_add_mod]
    rw [e] at hv
    have hq : val o / B ^ (y / 32) < 2 ^ (y % 32) := Nat.div_lt_of_lt_mul hv
    have hlt : o.getD (y / 32) 0 < 2 ^ (y % 32) := by rw [← hd]; exact Nat.lt_of_le_of_lt (Nat.mod_le _ _) hq
    have h3 := Nat.two_pow_add_eq_or_of_lt hlt 1
    rw [Nat.mul_one] at h3
    rw [Nat.or_comm, ← h3, Nat.add_comm]
  · refine Nat.or_lt_two_pow (n := 32) ?_ (Nat.pow_lt_pow_right (by decide) hr)
    exact getD_lt' o h (y / 32)
theorem set_low (o : List Nat) (h : Limbs o) (y : Nat) (hi : y / 32 < o.length) (hv : val o < 2 ^ y) : val (o.set (y / 32) (o.getD (y / 32) 0 ||| 2 ^ (y % 32))) = val o + 2 ^ y := by
  have h1 := val_set o (y / 32) (o.getD (y / 32) 0 ||| 2 ^ (y % 32)) hi
  rw [(or_low o h y hv).1, Nat.mul_add, B_pow, ← Nat.pow_add, Nat.div_add_mod] at h1
  rw [(or_low o h y hv).1]
  omega
theorem next_bit (T y : Nat) : T % 2 ^ (y + 1) = T % 2 ^ y + (if T.testBit y = true then 2 ^ y else 0) := by
  rw [Nat.mod_pow_succ, Nat.testBit_eq_decide_div_mod_eq]
  have := Nat.mod_two_eq_zero_or_one (T / 2 ^ y)
  rcases this with h | h <;> rw [h] <;> simp
end Go.Ab

/- The reference's bits: and, or, exclusive or, bit by bit. Conditions: limbs in range. -/
namespace Go.Ab
open Go.Proofs
set_option maxRecDepth 100000
set_option linter.unusedSimpArgs false

def lessG (g : Gk) (z : Int) : Gk := if z < 0 then .l else g
end Go.Ab

/- The reference's bits: the walk. Conditions: limbs in range. -/
namespace Go.Ab
open Go.Proofs
set_option maxRecDepth 100000
set_option linter.unusedSimpArgs false

theorem rmade_own (n d : Nat) (hn : 100000 ≤ n) (D : Nat) (s : St) (b : Bool) (p t : Nat) (o : List Nat) (len : Nat) (hp : s p = ⟨t, .buf (encC o)⟩) (hl : o.length = len) (hk : len ≤ 1000) (hL : Limbs o) : callA cfg0 (evalFn Tryd.prog cfg0 n (d+2)) D s 61 [.bool b, .own p t 0 len 1] = some (madeF (sgn b (val o)), upd s p ⟨t, .frz (encC o)⟩) := by
  subst hl
  have this := rmade_eq n d b .l o hL (by omega) (by omega)
  rw [show encL .l o = .sl (encC o) o.length .loose from rfl] at this
  have hf : flatR (.tree (madeF (sgn b (val o)))) = false := rfl
  have ht : (encC o).take o.length = encC o := List.take_of_length_le (by rw [encC_len]; exact Nat.le_refl _)
  have hfz : frzAt s p = upd s p ⟨t, .frz (encC o)⟩ := by unfold frzAt; rw [hp]
  simp [callA, argsA, argA, cellsAt, hp, ht, encC_len, givesL, lendsL, givesOf, lendsOf, this, hf, backA, resA, hfz, lin0]
theorem less_abs (z : Int) : z.natAbs ≤ lessN z + 1 := by unfold lessN; split <;> omega
theorem less_le (z : Int) : lessN z ≤ z.natAbs := by unfold lessN; split <;> omega
theorem abs_pow (z : Int) (L : Nat) (h : (digs (lessN z)).length < L) : z.natAbs < 2 ^ (32 * L) := by
  have h1 := val_lt (digs (lessN z)) (limbs_digs _)
  rw [val_digs, B_pow] at h1
  have h2 : 2 ^ (32 * (digs (lessN z)).length) < 2 ^ (32 * L) := Nat.pow_lt_pow_right (by decide) (by omega)
  have h3 := less_abs z
  omega
theorem own_len {o : List Nat} {L : Nat} (h : o.length = L) (hL : Limbs o) : val o < 2 ^ (32 * L) := by rw [← h, ← B_pow]; exact val_lt o hL
end Go.Ab

/- The reference's shifts, and how far. Conditions: limbs in range. -/
namespace Go.Ab
open Go.Proofs
set_option maxRecDepth 100000
set_option linter.unusedSimpArgs false

theorem min_Z (a b : Int) : foldA min2A (.int .i64 a) [.int .i64 b] = some (.int .i64 (if b < a then b else a)) := by
  simp only [foldA, min2A, Option.bind_some]
theorem max_Z (a b : Int) : foldA max2A (.int .i64 a) [.int .i64 b] = some (.int .i64 (if a < b then b else a)) := by
  simp only [foldA, max2A, Option.bind_some]
/-- A number of bits, cut. -/
def clZ (z : Int) : Int := if z < -10001 then -10001 else if 10001 < z then 10001 else z
theorem clZ_eq (z : Int) : (if (10001 : Int) < (if z < -10001 then -10001 else z) then 10001 else (if z < -10001 then -10001 else z)) = clZ z := by
  unfold clZ
  (repeat' split) <;> omega
theorem madeF_not {z : Int} (h : ¬ z.natAbs < B ^ 12) : madeF z = .tup [encA false .n [], .bool false] := by
  rw [madeF, mkZ_not h, gm, if_neg h]
  simp [canA, digs_0]
theorem down_cut (z : Int) (N : Nat) (h : z.natAbs < B ^ 12) (hN : 10000 < N) : shZ z (-(N : Int)) = shZ z (-((10000 : Nat) : Int)) := by
  have h1 : B ^ 12 ≤ 2 ^ N := B_le 12 N (by omega)
  obtain ⟨m, hm⟩ : ∃ m, m = 10000 := ⟨_, rfl⟩
  have h2 : B ^ 12 ≤ 2 ^ m := B_le 12 m (by omega)
  rw [← hm]
  by_cases hz : z < 0
  · rw [← down_neg z N hz, ← down_neg z m hz, Nat.div_eq_of_lt (by omega), Nat.div_eq_of_lt (by omega)]
  · rw [← down_pos z N hz, ← down_pos z m hz, Nat.div_eq_of_lt (by omega), Nat.div_eq_of_lt (by omega)]
-- Down.
-- Up.
end Go.Ab

/- And, or, exclusive or of limbs; a number's bits. Conditions: numbers that are shown. -/
namespace Go.Ab
open Go.Proofs
set_option maxRecDepth 100000
set_option linter.unusedSimpArgs false

theorem s_and (P : Program) (t : TypeId) (a b : Nat) (h : a < 4294967296) (h' : b < 4294967296) : binA P .and t (.int .u32 (a : Int)) (.int .u32 (b : Int)) = some (.int .u32 (((a &&& b) : Nat) : Int)) := by
  have h1 : (BitVec.ofInt 32 (a : Int) &&& BitVec.ofInt 32 (b : Int)).toNat = a &&& b := by
    rw [BitVec.toNat_and, BitVec.ofInt_natCast, BitVec.ofInt_natCast, BitVec.toNat_ofNat, BitVec.toNat_ofNat, Nat.mod_eq_of_lt h, Nat.mod_eq_of_lt h']
  have h2 : a &&& b ≤ a := Nat.and_le_left
  show some (AV.int .u32 (IntKind.u32.wrap ((BitVec.ofInt 32 (a : Int) &&& BitVec.ofInt 32 (b : Int)).toNat : Int))) = _
  rw [h1]
  simp only [IntKind.wrap, IntKind.bits, IntKind.signed]
  congr 2
  generalize a &&& b = c at *
  simp; omega
theorem s_xor (P : Program) (t : TypeId) (a b : Nat) (h : a < 4294967296) (h' : b < 4294967296) : binA P .xor t (.int .u32 (a : Int)) (.int .u32 (b : Int)) = some (.int .u32 (((a ^^^ b) : Nat) : Int)) := by
  have h1 : (BitVec.ofInt 32 (a : Int) ^^^ BitVec.ofInt 32 (b : Int)).toNat = a ^^^ b := by
    rw [BitVec.toNat_xor, BitVec.ofInt_natCast, BitVec.ofInt_natCast, BitVec.toNat_ofNat, BitVec.toNat_ofNat, Nat.mod_eq_of_lt h, Nat.mod_eq_of_lt h']
  have h2 : (a ^^^ b) < 2 ^ 32 := Nat.xor_lt_two_pow h h'
  show some (AV.int .u32 (IntKind.u32.wrap ((BitVec.ofInt 32 (a : Int) ^^^ BitVec.ofInt 32 (b : Int)).toNat : Int))) = _
  rw [h1]
  simp only [IntKind.wrap, IntKind.bits, IntKind.signed]
  congr 2
  generalize a ^^^ b = c at *
  simp; omega
theorem s_not (a : Nat) (h : a < 4294967296) : unA .xor (.int .u32 (a : Int)) = some (.int .u32 ((4294967295 - a : Nat) : Int)) := by
  have h1 : (BitVec.ofInt 32 4294967295 ^^^ BitVec.ofInt 32 (a : Int)).toNat = 4294967295 - a := by
    have e : BitVec.ofInt 32 4294967295 = BitVec.allOnes 32 := by decide
    rw [e, BitVec.allOnes_xor, BitVec.toNat_not, BitVec.ofInt_natCast, BitVec.toNat_ofNat, Nat.mod_eq_of_lt h]
  show some (AV.int .u32 (IntKind.u32.wrap ((BitVec.ofInt 32 4294967295 ^^^ BitVec.ofInt 32 (a : Int)).toNat : Int))) = _
  rw [h1]
  simp only [IntKind.wrap, IntKind.bits, IntKind.signed]
  congr 2
  simp; omega
theorem finish_u (k : Bool) (xs : List Arg) (t : Nat) (env : Env) (s : St) (z : Int) (os : List (List AV)) (hv : env t = .int .u32 z) (ho : outsA s 0 xs = some os) : finishP Tryd.prog k xs #[.tmp t] env s = some (.tree (.int .u32 z), os) :=
  finish_tree _ _ _ _ _ _ (.int .u32 z) _ _ hv rfl ho
/-! ### bits -/
theorem copy_L (s : St) (p t : Nat) (m l : List Nat) (b : Gk) (hs : s p = ⟨t, .buf (encC m)⟩) (len : Nat) (hm : m.length = len) (hl : l.length ≤ len) : copyA Tryd.prog #[25, 25] s (.own p t 0 len 1) (encL b l) =
    some (.int .i64 (l.length : Int), upd s p ⟨t, .buf (encC (l ++ m.drop l.length))⟩) := by
  have e1 : (#[25, 25] : Array TypeId)[0]? = some 25 := rfl
  have e2 : (#[25, 25] : Array TypeId)[1]? = some 25 := rfl
  subst hm
  have hmin : Nat.min l.length m.length = l.length := Nat.min_eq_left hl
  simp only [copyA, e1, e2, Option.map_some, tk22, esz31, Option.bind_some, moreA, encL, encC_len, Nat.mul_one, if_true, hs, hmin]
  rw [if_pos ⟨trivial, trivial, by omega⟩]
  simp only [encC_take, splice_enc, List.take_zero, List.nil_append, Nat.zero_add, List.take_of_length_le (Nat.le_refl l.length)]
theorem copy_own (s : St) (p t p' t' : Nat) (m l : List Nat) (hs : s p = ⟨t, .buf (encC m)⟩) (hs' : s p' = ⟨t', .buf (encC l)⟩) (len : Nat) (hm : m.length = len) (hl : l.length = len) : copyA Tryd.prog #[25, 25] s (.own p t 0 len 1) (.own p' t' 0 len 1) =
    some (.int .i64 (len : Int), upd s p ⟨t, .buf (encC l)⟩) := by
  have e1 : (#[25, 25] : Array TypeId)[0]? = some 25 := rfl
  have e2 : (#[25, 25] : Array TypeId)[1]? = some 25 := rfl
  subst hm
  have hmin : Nat.min m.length m.length = m.length := Nat.min_eq_left (Nat.le_refl _)
  simp only [copyA, e1, e2, Option.map_some, tk22, esz31, Option.bind_some, moreA, cellsAt_E, hs', cellsE_buf, encC_len, Nat.mul_one, if_true, hs, Nat.zero_add, hl, Nat.le_refl, and_self, List.drop_zero, encC_take, hmin, splice_enc, List.take_zero, List.nil_append]
  have e3 : (l.take m.length).take m.length = l := by rw [List.take_of_length_le (by rw [List.length_take]; omega), List.take_of_length_le (by omega)]
  rw [e3, hl, List.drop_of_length_le (Nat.le_refl _), List.append_nil]
theorem len_own (s : St) (p t off len : Nat) (xs : List AV) (hs : s p = ⟨t, .buf xs⟩) : lenA Tryd.prog 25 s (.own p t off len 1) = some (.int .i64 (len : Int)) := by
  simp [lenA, tk22, live, cellsAt_E, hs, cellsE_buf]
/-- The bits, as a list of limbs. -/
def tcL (z : Int) : List Nat := if z < 0 then (digs (z.natAbs - 1) ++ List.replicate (13 - (digs (z.natAbs - 1)).length) 0).map (4294967295 - ·) else digs z.natAbs ++ List.replicate (13 - (digs z.natAbs).length) 0
theorem limbs_rep (k : Nat) : Limbs (List.replicate k 0) := fun x hx => by rw [List.eq_of_mem_replicate hx]; decide
theorem pad_val (v : Nat) (k : Nat) : val (digs v ++ List.replicate k 0) = v := by rw [val_zeros, val_digs]
theorem tcL_ok (z : Int) (h : z.natAbs < B ^ 12) : Limbs (tcL z) ∧ (tcL z).length = 13 ∧ val (tcL z) = tcZ z := by
  have hd := digs_len z.natAbs 12 h
  have hd1 := digs_len (z.natAbs - 1) 12 (by omega)
  unfold tcL tcZ
  by_cases hz : z < 0
  · rw [if_pos hz, if_pos hz]
    have hL : Limbs (digs (z.natAbs - 1) ++ List.replicate (13 - (digs (z.natAbs - 1)).length) 0) := (limbs_digs _).app (limbs_rep _)
    have hl : (digs (z.natAbs - 1) ++ List.replicate (13 - (digs (z.natAbs - 1)).length) 0).length = 13 := by
      rw [List.length_append, List.length_replicate]; omega
    refine ⟨limbs_not _, by rw [List.length_map, hl], ?_⟩
    have hv := val_not _ hL
    rw [hl, pad_val] at hv
    omega
  · rw [if_neg hz, if_neg hz]
    exact ⟨(limbs_digs _).app (limbs_rep _), by rw [List.length_append, List.length_replicate]; omega, pad_val _ _⟩
theorem finish_own (xs : List Arg) (t p e len : Nat) (l : List Nat) (env : Env) (s : St) (os : List (List AV)) (hv : env t = .own p e 0 len 1) (hs : s p = ⟨e, .buf (encC l)⟩) (hp : xs.length ≤ p) (hl : l.length = len) (ho : outsA s 0 xs = some os) :
    finishP Tryd.prog true xs #[.tmp t] env s = some (.own (encC l) len 1, os) := by
  have hc : len * 1 ≤ (encC l).length := by rw [encC_len]; omega
  simp only [finishP_t1, finish, hv, finish1, if_true, hs, hp, hc, and_self, Option.bind_some, ho, Option.map_some]
/-- Every limb turned, from a place on. -/
def notI (m : List Nat) (i : Nat) : List Nat := (m.take i).map (4294967295 - ·) ++ m.drop i
theorem notI_len (m : List Nat) (i : Nat) : (notI m i).length = m.length := by
  simp only [notI, List.length_append, List.length_map, List.length_take, List.length_drop]; omega
theorem notI_get (m : List Nat) (i : Nat) (h : i < m.length) : (notI m i).getD i 0 = m.getD i 0 := by
  have hl : ((m.take i).map (4294967295 - ·)).length = i := by rw [List.length_map, List.length_take]; omega
  rw [notI, List.getD_eq_getElem?_getD, List.getD_eq_getElem?_getD, List.getElem?_append_right (by omega), hl, Nat.sub_self, List.getElem?_drop, Nat.add_zero]
theorem notI_set (m : List Nat) (i : Nat) (h : i < m.length) : (notI m i).set i (4294967295 - m.getD i 0) = notI m (i + 1) := by
  have hl : ((m.take i).map (4294967295 - ·)).length = i := by rw [List.length_map, List.length_take]; omega
  rw [notI, List.set_append_right _ _ (by omega), hl, Nat.sub_self]
  have hd : m.drop i = m.getD i 0 :: m.drop (i + 1) := by
    rw [List.drop_eq_getElem_cons h]
    simp [List.getD_eq_getElem?_getD, h]
  rw [hd, List.set_cons_zero, notI, List.take_succ_eq_append_getElem h, List.map_append, List.append_assoc]
  simp [List.getD_eq_getElem?_getD, h]
theorem notI_0 (m : List Nat) : notI m 0 = m := by simp [notI]
theorem notI_all (m : List Nat) : notI m m.length = m.map (4294967295 - ·) := by simp [notI]
theorem notI_limbs (m : List Nat) (hm : Limbs m) (i : Nat) : Limbs (notI m i) := (limbs_not _).app (hm.drop i)
end Go.Ab

/- A number's bits. Conditions: numbers that are shown. -/
namespace Go.Ab
open Go.Proofs
set_option maxRecDepth 100000
set_option linter.unusedSimpArgs false

/-- What a loop that turns all limbs of a list of its own does. -/
theorem rep13 : (List.replicate 13 0 : List Nat).length = 13 := rfl
end Go.Ab

/- Logic of numbers. Conditions: numbers that are shown. -/
namespace Go.Ab
open Go.Proofs
set_option maxRecDepth 100000
set_option linter.unusedSimpArgs false

theorem callA_own {cfg : Cfg} {call : FuncId → List Arg → Option Out} {d : Nat} {s : St} {f : FuncId} {vs : List AV} {xs : List AV} {len e : Nat} (ht : vs.all isTree = true) (hc : call f (vs.map Arg.tree) = some (.own xs len e, vs.map fun _ => [])) : callA cfg call d s f vs = some (.own d ((s d).t + 1) 0 len e, upd s d ⟨(s d).t + 1, .buf xs⟩) := by
  simp only [callA, argsA_trees f s vs 0 ht, Option.bind_some, givesL_trees, lendsL_trees vs ht, List.nodup_nil, List.not_mem_nil, false_implies, implies_true, and_self, if_true, hc, List.foldl_nil, ite_self, backA_trees, resA]
theorem made_own (n d : Nat) (hn : 100000 ≤ n) (D : Nat) (s : St) (b : Bool) (p t : Nat) (o : List Nat) (len : Nat) (hp : s p = ⟨t, .buf (encC o)⟩) (hl : o.length = len) (hk : len ≤ 1000) (hL : Limbs o) : callA cfg0 (evalFn Tryd.prog cfg0 n (d+2)) D s 98 [.bool b, .own p t 0 len 1] = some (madeV (sgn b (val o)), upd s p ⟨t, .frz (encC o)⟩) := by
  subst hl
  have this := made_eq n d b .l o hL (by omega) (by omega)
  rw [show encL .l o = .sl (encC o) o.length .loose from rfl] at this
  have hf : flatR (.tree (madeV (sgn b (val o)))) = false := rfl
  rw [← madeV_eq] at this
  have ht : (encC o).take o.length = encC o := List.take_of_length_le (by rw [encC_len]; exact Nat.le_refl _)
  have hfz : frzAt s p = upd s p ⟨t, .frz (encC o)⟩ := by unfold frzAt; rw [hp]
  simp [callA, argsA, argA, cellsAt, hp, ht, encC_len, givesL, lendsL, givesOf, lendsOf, this, hf, backA, resA, hfz, lin0]
theorem add_own1 (n d : Nat) (hn : 100000 ≤ n) (D : Nat) (s : St) (p t : Nat) (o : List Nat) (len : Nat) (hp : s p = ⟨t, .buf (encC o)⟩) (hl : o.length = len) (hk : len ≤ 1000) (hL : Limbs o) : callA cfg0 (evalFn Tryd.prog cfg0 n (d+2)) D s 42 [.own p t 0 len 1, .sl [.int .u32 1] 1 .tight] = some (encR (val o + 1), upd s p ⟨t, .frz (encC o)⟩) := by
  subst hl
  have this := fnAdd_eq n d .l .t o [1] hL (limbs_one (by decide)) (by omega) (by simp; omega) (by omega) (by simp)
  rw [show encL .l o = .sl (encC o) o.length .loose from rfl, show encL .t [1] = .sl [.int .u32 1] 1 .tight from rfl, show val [1] = 1 from rfl] at this
  have hf : flatR (.tree (encR (val o + 1))) = false := rfl
  have ht : (encC o).take o.length = encC o := List.take_of_length_le (by rw [encC_len]; exact Nat.le_refl _)
  have hfz : frzAt s p = upd s p ⟨t, .frz (encC o)⟩ := by unfold frzAt; rw [hp]
  simp [callA, argsA, argA, cellsAt, hp, ht, encC_len, givesL, lendsL, givesOf, lendsOf, this, hf, backA, resA, hfz, lin0]
/-- Put together up to a place. -/
def zipI (op : Nat) (x y : List Nat) (i : Nat) : List Nat := (List.zipWith (wordN op) x y).take i ++ x.drop i
theorem zipI_len (op : Nat) (x y : List Nat) (i : Nat) (h : x.length = y.length) : (zipI op x y i).length = x.length := by
  simp only [zipI, List.length_append, List.length_take, List.length_zipWith, List.length_drop]; omega
theorem zipI_0 (op : Nat) (x y : List Nat) : zipI op x y 0 = x := by simp [zipI]
theorem zipI_all (op : Nat) (x y : List Nat) (h : x.length = y.length) : zipI op x y x.length = List.zipWith (wordN op) x y := by
  simp only [zipI, List.drop_length, List.append_nil]
  exact List.take_of_length_le (by rw [List.length_zipWith]; omega)
theorem zipI_get (op : Nat) (x y : List Nat) (i : Nat) (h : x.length = y.length) (hi : i < x.length) : (zipI op x y i).getD i 0 = x.getD i 0 := by
  have hl : ((List.zipWith (wordN op) x y).take i).length = i := by rw [List.length_take, List.length_zipWith]; omega
  rw [zipI, List.getD_eq_getElem?_getD, List.getD_eq_getElem?_getD, List.getElem?_append_right (by omega), hl, Nat.sub_self, List.getElem?_drop, Nat.add_zero]
theorem zipI_set (op : Nat) (x y : List Nat) (i : Nat) (h : x.length = y.length) (hi : i < x.length) : (zipI op x y i).set i (wordN op (x.getD i 0) (y.getD i 0)) = zipI op x y (i + 1) := by
  have hz : i < (List.zipWith (wordN op) x y).length := by rw [List.length_zipWith]; omega
  have hl : ((List.zipWith (wordN op) x y).take i).length = i := by rw [List.length_take]; omega
  rw [zipI, List.set_append_right _ _ (by omega), hl, Nat.sub_self, List.drop_eq_getElem_cons hi, List.set_cons_zero, zipI, List.take_succ_eq_append_getElem hz, List.append_assoc]
  have hiy : i < y.length := by omega
  simp [List.getD_eq_getElem?_getD, hi, hiy]
theorem zipI_limbs (op : Nat) (x y : List Nat) (i : Nat) (hx : Limbs x) (hy : Limbs y) : Limbs (zipI op x y i) := ((limbs_zip op x y hx hy).take i).app (hx.drop i)
end Go.Ab

/- Op: logic; the statements' own way to call it. Conditions: numbers that are shown. -/
namespace Go.Ab
open Go.Proofs
set_option maxRecDepth 100000
set_option linter.unusedSimpArgs false
section
variable (n d : Nat) (hn : 100000 ≤ n) {w w' : AV} {z z' : Int} (hw : IsN w z) (hw' : IsN w' z')
include hn hw hw'
set_option maxHeartbeats 8000000
end
end Go.Ab

/- Op: shifts. Conditions: numbers that are shown. -/
namespace Go.Ab
open Go.Proofs
set_option maxRecDepth 100000
set_option linter.unusedSimpArgs false
section
variable (n d : Nat) (hn : 100000 ≤ n) {w w' : AV} {z z' : Int} (hw : IsN w z) (hw' : IsN w' z')
include hn hw hw'
set_option maxHeartbeats 8000000
end
end Go.Ab

/- The reference's Op, any op; the program's, of an op that is none. Conditions: limbs in range. -/
namespace Go.Ab
open Go.Proofs
set_option maxRecDepth 100000
set_option linter.unusedSimpArgs false

section
variable (n d : Nat) (hn : 100000 ≤ n) {w w' : AV} {z z' : Int} (hw : IsN w z) (hw' : IsN w' z')
include hn hw hw'
set_option maxHeartbeats 8000000
end
end Go.Ab

/- The statement NumRooms, abstractly. Conditions: an int. -/
namespace Go.Ab
open Go.Proofs
set_option maxRecDepth 100000
set_option linter.unusedSimpArgs false

/-- A power of two, with a sign. -/
def pw (neg : Bool) (K : Nat) : Int := sgn neg (2 ^ K)
theorem pw_abs (neg : Bool) (K : Nat) : (pw neg K).natAbs = 2 ^ K := sgn_abs _ _
theorem pw_fit (neg : Bool) (K : Nat) (h : K < 384) : (pw neg K).natAbs < B ^ 12 := by
  rw [pw_abs]; exact lt_B 12 K (by omega)
theorem pw_big (neg : Bool) (K : Nat) (h : 384 ≤ K) : ¬ (pw neg K).natAbs < B ^ 12 := by
  rw [pw_abs]
  exact Nat.not_lt.mpr (B_le 12 K (by omega))
theorem pw_lt0 (neg : Bool) (K : Nat) : decide (pw neg K < 0) = neg := by
  unfold pw
  rw [sgn_neg]
  have : 2 ^ K ≠ 0 := by have := Nat.two_pow_pos K; omega
  rw [decide_eq_true this, Bool.and_true]
theorem pw_up (neg : Bool) (K m : Nat) : shZ (pw neg K) (m : Int) = pw neg (K + m) := by
  rw [← up_sgn, pw_lt0, pw_abs, pw, Nat.pow_add]
theorem pw_down (neg : Bool) (K m : Nat) : shZ (pw neg (K + m)) (-(m : Int)) = pw neg K := by
  have hp := Nat.two_pow_pos m
  cases neg with
  | true =>
    have h : pw true (K + m) < 0 := of_decide_eq_true (pw_lt0 true (K + m))
    rw [← down_neg _ m h, pw_abs, Nat.pow_add]
    have e : (2 ^ K * 2 ^ m - 1) / 2 ^ m + 1 = 2 ^ K := by
      obtain ⟨x, hx⟩ : ∃ x, 2 ^ K = x + 1 := ⟨2 ^ K - 1, by have := Nat.two_pow_pos K; omega⟩
      rw [hx]
      generalize 2 ^ m = p at *
      have h1 : (x + 1) * p - 1 = (p - 1) + x * p := by rw [Nat.add_mul, Nat.one_mul]; omega
      rw [h1, Nat.add_mul_div_right _ _ hp, Nat.div_eq_of_lt (by omega)]; omega
    rw [e]; rfl
  | false =>
    have h : ¬ pw false (K + m) < 0 := of_decide_eq_false (pw_lt0 false (K + m))
    rw [← down_pos _ m h, pw_abs, Nat.pow_add, Nat.mul_div_cancel _ hp]; rfl
theorem pw_neg (K : Nat) : -(pw false K) = pw true K := by simp [pw, sgn]
theorem cmpI_self (a : Int) : cmpI a a = 0 := by unfold cmpI; rw [if_neg (by omega), if_neg (by omega)]
theorem blen_pow (K : Nat) : blen (2 ^ K) = K + 1 := blen_of _ K (Nat.le_refl _) (Nat.pow_lt_pow_right (by decide) (by omega))
end Go.Ab

/- Op, any op: the program's and the reference's give the same number. Conditions: numbers that are shown. -/
namespace Go.Ab
open Go.Proofs
set_option maxRecDepth 100000
set_option linter.unusedSimpArgs false

/-- What an op gives: the number, and whether there is one. -/
def opR (op a b : Int) : Int × Bool :=
  if op = 1 then mkZ (a + b) else if op = 2 then mkZ (a - b) else if op = 3 then mkZ (a * b)
  else if op = 4 then (if b = 0 then (0, false) else mkZ (a.tdiv b)) else if op = 5 then (if b = 0 then (0, false) else mkZ (a.tmod b))
  else if op = 6 then mkZ (logZ 6 a b) else if op = 7 then mkZ (logZ 7 a b) else if op = 8 then mkZ (logZ 8 a b)
  else if op = 9 then mkZ (shZ a b) else if op = 10 then mkZ (shZ a (-b)) else (0, false)
theorem opR_lt (op a b : Int) : (opR op a b).1.natAbs < B ^ 12 := by
  have h0 : (0 : Int).natAbs < B ^ 12 := Nat.pow_pos (by decide)
  unfold opR
  (repeat' split) <;> first | exact mkZ_lt _ | exact h0
def tupZ (r : Int × Bool) : AV := .tup [encZ r.1, .bool r.2]
def tupF (g : Gk) (r : Int × Bool) : AV := .tup [canA g r.1, .bool r.2]
theorem tupZ_made (z : Int) : madeV z = tupZ (mkZ z) := rfl
theorem tupF_made (z : Int) : madeF z = tupF (gm z) (mkZ z) := rfl
theorem tupZ_0 : (.tup [encZ 0, .bool false] : AV) = tupZ (0, false) := rfl
theorem tupF_0 : (.tup [encA false .n [], .bool false] : AV) = tupF .n (0, false) := by simp [tupF, canA, digs_0]
theorem op_cases (op : Int) : op = 1 ∨ op = 2 ∨ op = 3 ∨ op = 4 ∨ op = 5 ∨ op = 6 ∨ op = 7 ∨ op = 8 ∨ op = 9 ∨ op = 10 ∨ (op < 1 ∨ 10 < op) := by omega
section
variable (n d : Nat) (hn : 100000 ≤ n) {w w' : AV} {z z' : Int} (hw : IsN w z) (hw' : IsN w' z')
include hn hw hw'
set_option maxHeartbeats 8000000
end
end Go.Ab

/- The number statements' own example, by the kernel's own reckoning. No conditions. -/
namespace Go.Ab
open Go.Proofs
def isOk : Option Out → Bool
  | some (.tree (.bool true), []) => true
  | _ => false
theorem isOk_eq {o : Option Out} (h : isOk o = true) : o = some (.tree (.bool true), []) := by
  unfold isOk at h
  split at h
  · rfl
  · cases h
end Go.Ab

/- The statement NumOrders, abstractly. Conditions: limbs in range. -/
namespace Go.Ab
open Go.Proofs
set_option maxRecDepth 100000
set_option linter.unusedSimpArgs false

end Go.Ab

/- The statement NumAll, abstractly. Conditions: limbs in range, an int in range. -/
namespace Go.Ab
open Go.Proofs
set_option maxRecDepth 100000
set_option linter.unusedSimpArgs false

theorem st0_4' (a b c d : AV) : st0 [.tree a, .tree b, .tree c, .tree d] = dead := by
  funext p
  match p with
  | 0 => rfl
  | 1 => rfl
  | 2 => rfl
  | 3 => rfl
  | p + 4 => rfl
theorem intZ_tup (z : Int) : intZ z = .tup [.int .i64 (if isI64 z = true then z else 0), .bool (isI64 z)] := by
  unfold intZ
  by_cases h : isI64 z = true
  · rw [if_pos h, if_pos h, h]
  · rw [if_neg h, if_neg h, eq_false_of_ne_true h]
end Go.Ab

/- Numbers as texts. Pure mathematics. -/
namespace Go.Ab
def dg (n : Nat) : UInt8 := UInt8.ofNat (48 + n % 10)
theorem dg_nat (n : Nat) : (dg n).toNat = 48 + n % 10 := by
  unfold dg
  rw [UInt8.toNat_ofNat']
  have := Nat.mod_lt n (show 0 < 10 by decide)
  exact Nat.mod_eq_of_lt (by omega)
def decN (v : Nat) : List UInt8 := if _h : v = 0 then [] else decN (v / 10) ++ [dg v]
termination_by v
decreasing_by exact Nat.div_lt_self (by omega) (by decide)
theorem decN_0 : decN 0 = [] := by rw [decN]; rfl
theorem decN_pos (v : Nat) (h : v ≠ 0) : decN v = decN (v / 10) ++ [dg v] := by rw [decN, dif_neg h]
theorem decN_nil (v : Nat) : decN v = [] ↔ v = 0 := by
  constructor
  · intro h
    apply Classical.byContradiction
    intro h0
    rw [decN_pos v h0] at h
    simp at h
  · rintro rfl; exact decN_0
def textZ (z : Int) : List UInt8 := if z = 0 then [48] else if z < 0 then 45 :: decN z.natAbs else decN z.natAbs
def padN : Nat → Nat → List UInt8
  | 0, _ => []
  | k + 1, v => padN k (v / 10) ++ [dg v]
theorem padN_len : ∀ k v, (padN k v).length = k
  | 0, _ => rfl
  | k + 1, v => by simp [padN, padN_len k]
theorem padN_add (a : Nat) : ∀ b v, padN (a + b) v = padN a (v / 10 ^ b) ++ padN b v
  | 0, v => by simp [padN]
  | b + 1, v => by
    show padN (a + b) (v / 10) ++ [dg v] = _
    rw [padN_add a b (v / 10), Nat.div_div_eq_div_mul, show 10 * 10 ^ b = 10 ^ (b + 1) by rw [Nat.pow_succ, Nat.mul_comm], List.append_assoc]
    rfl
theorem padN_mod : ∀ k v, padN k (v % 10 ^ k) = padN k v
  | 0, v => rfl
  | k + 1, v => by
    show padN k (v % 10 ^ (k + 1) / 10) ++ [dg (v % 10 ^ (k + 1))] = padN k (v / 10) ++ [dg v]
    have h1 : v % 10 ^ (k + 1) / 10 = v / 10 % 10 ^ k := by rw [Nat.pow_succ, Nat.mul_comm]; exact Nat.mod_mul_right_div_self v 10 (10 ^ k)
    have h2 : v % 10 ^ (k + 1) % 10 = v % 10 := Nat.mod_mod_of_dvd v ⟨10 ^ k, by rw [Nat.pow_succ, Nat.mul_comm]⟩
    rw [h1, padN_mod k]
    unfold dg
    rw [h2]
theorem padN_drop : ∀ k v, v < 10 ^ k → (padN k v).dropWhile (· == 48) = decN v
  | 0, v, h => by
    have : v = 0 := by simpa using h
    subst this
    rw [decN_0]; rfl
  | k + 1, v, h => by
    have h1 : v / 10 < 10 ^ k := Nat.div_lt_of_lt_mul (by rw [Nat.pow_succ] at h; omega)
    show (padN k (v / 10) ++ [dg v]).dropWhile (· == 48) = decN v
    rw [List.dropWhile_append, padN_drop k _ h1]
    by_cases hv : v / 10 = 0
    · rw [hv, decN_0]
      simp only [List.isEmpty_nil, if_true]
      by_cases h0 : v = 0
      · subst h0
        rw [decN_0]; rfl
      · rw [decN_pos v h0, hv, decN_0]
        have : (dg v == 48) = false := by
          rw [beq_eq_false_iff_ne]
          intro hc
          have := congrArg UInt8.toNat hc
          rw [dg_nat] at this
          simp at this
          omega
        simp [List.dropWhile, this]
    · have hne : decN (v / 10) ≠ [] := fun hc => hv ((decN_nil _).mp hc)
      have : (decN (v / 10)).isEmpty = false := by cases hq : decN (v / 10) with | nil => exact absurd hq hne | cons _ _ => rfl
      rw [this]
      simp only [Bool.false_eq_true, if_false]
      rw [decN_pos v (by omega)]
theorem dec_len : ∀ k v, v < 10 ^ k → (decN v).length ≤ k
  | 0, v, h => by
    have : v = 0 := by simpa using h
    subst this
    rw [decN_0]; exact Nat.le_refl _
  | k + 1, v, h => by
    by_cases h0 : v = 0
    · subst h0; rw [decN_0]; exact Nat.zero_le _
    · rw [decN_pos v h0, List.length_append]
      have := dec_len k (v / 10) (Nat.div_lt_of_lt_mul (by rw [Nat.pow_succ] at h; omega))
      simp; omega
def isDg (c : UInt8) : Bool := decide (48 ≤ c.toNat) && decide (c.toNat ≤ 57)
theorem dg_is (n : Nat) : isDg (dg n) = true := by
  unfold isDg
  rw [dg_nat]
  have := Nat.mod_lt n (show 0 < 10 by decide)
  simp; omega
def valD (l : List UInt8) : Nat := l.foldl (fun a c => a * 10 + (c.toNat - 48)) 0
theorem valD_snoc (l : List UInt8) (c : UInt8) : valD (l ++ [c]) = valD l * 10 + (c.toNat - 48) := by simp [valD, List.foldl_append]
theorem dec_facts : ∀ (k v : Nat), v ≤ k → valD (decN v) = v ∧ (decN v).all isDg = true
  | 0, v, h => by
    have : v = 0 := by omega
    subst this
    rw [decN_0]; exact ⟨rfl, rfl⟩
  | k + 1, v, h => by
    by_cases h0 : v = 0
    · subst h0; rw [decN_0]; exact ⟨rfl, rfl⟩
    · obtain ⟨h1, h2⟩ := dec_facts k (v / 10) (by omega)
      rw [decN_pos v h0, valD_snoc, h1, dg_nat, List.all_append, h2]
      refine ⟨by omega, ?_⟩
      simp [dg_is]
theorem valD_dec (v : Nat) : valD (decN v) = v := (dec_facts v v (Nat.le_refl _)).1
theorem dec_all (v : Nat) : (decN v).all isDg = true := (dec_facts v v (Nat.le_refl _)).2
theorem foldD_lt : ∀ (l : List UInt8) (a : Nat), l.all isDg = true → l.foldl (fun a c => a * 10 + (c.toNat - 48)) a < (a + 1) * 10 ^ l.length
  | [], a, _ => by simp
  | c :: r, a, h => by
    rw [List.all_cons, Bool.and_eq_true] at h
    have hc : c.toNat ≤ 57 := by
      have := h.1
      simp [isDg] at this
      exact this.2
    have h1 := foldD_lt r (a * 10 + (c.toNat - 48)) h.2
    rw [List.foldl_cons, List.length_cons]
    refine Nat.lt_of_lt_of_le h1 ?_
    rw [Nat.pow_succ, Nat.mul_comm (10 ^ r.length) 10, ← Nat.mul_assoc]
    exact Nat.mul_le_mul_right _ (by omega)
theorem valD_lt (l : List UInt8) (h : l.all isDg = true) : valD l < 10 ^ l.length := by
  have := foldD_lt l 0 h
  rw [Nat.zero_add, Nat.one_mul] at this
  exact this
/-- A text's sign, and the rest. -/
def cutS (s : List UInt8) : Bool × List UInt8 := match s with
  | [] => (false, [])
  | c :: r => if c = 45 then (true, r) else (false, c :: r)
def okS (s : List UInt8) : Bool := decide (s.length ≤ 200) && !(cutS s).2.isEmpty && (cutS s).2.all isDg
/-- A text's number, and whether it is one's text. -/
def parseR (s : List UInt8) : Int × Bool := if okS s = true then (if (mkZ (sgn (cutS s).1 (valD (cutS s).2))).2 && (textZ (mkZ (sgn (cutS s).1 (valD (cutS s).2))).1 == s) then ((mkZ (sgn (cutS s).1 (valD (cutS s).2))).1, true) else (0, false)) else (0, false)
theorem dec_no45 (v : Nat) : ∀ c r, decN v = c :: r → c ≠ 45 := by
  intro c r h hc
  have := dec_all v
  rw [h, hc] at this
  simp [isDg] at this
theorem cut_text (z : Int) (h : z ≠ 0) : cutS (textZ z) = (decide (z < 0), decN z.natAbs) := by
  unfold textZ
  rw [if_neg h]
  by_cases hz : z < 0
  · rw [if_pos hz, decide_eq_true hz]; rfl
  · rw [if_neg hz, decide_eq_false hz]
    cases hd : decN z.natAbs with
    | nil => exact absurd ((decN_nil _).mp hd) (by omega)
    | cons c r =>
      have := dec_no45 _ c r hd
      simp [cutS, this]
theorem B12_ten : B ^ 12 < 10 ^ 116 := by decide
theorem parse_text (z : Int) (hz : z.natAbs < B ^ 12) : parseR (textZ z) = (z, true) := by
  by_cases h0 : z = 0
  · subst h0
    have e : textZ 0 = [48] := rfl
    rw [e]
    have h1 : okS [48] = true := by decide
    have h2 : cutS [48] = (false, [48]) := by decide
    have h3 : valD [48] = 0 := by decide
    have h4 : mkZ (sgn false 0) = (0, true) := mkZ_fit hz
    unfold parseR
    rw [if_pos h1, h2]
    show (if (mkZ (sgn false (valD [48]))).2 && (textZ (mkZ (sgn false (valD [48]))).1 == [48]) then ((mkZ (sgn false (valD [48]))).1, true) else (0, false)) = (0, true)
    rw [h3, h4, e]
    rfl
  · have hc := cut_text z h0
    have hl := dec_len 116 z.natAbs (Nat.lt_trans hz B12_ten)
    have hne : decN z.natAbs ≠ [] := fun h => h0 (by have := (decN_nil _).mp h; omega)
    have hok : okS (textZ z) = true := by
      unfold okS
      rw [hc]
      have h1 : (textZ z).length ≤ 200 := by
        unfold textZ
        rw [if_neg h0]
        split
        · rw [List.length_cons]; omega
        · omega
      have h2 : (decN z.natAbs).isEmpty = false := by cases hq : decN z.natAbs with | nil => exact absurd hq hne | cons _ _ => rfl
      rw [decide_eq_true h1, h2, dec_all]
      rfl
    have hm : mkZ (sgn (decide (z < 0)) z.natAbs) = (z, true) := by
      rw [show sgn (decide (z < 0)) z.natAbs = z from sgn_of z]
      exact mkZ_fit hz
    unfold parseR
    rw [if_pos hok, hc]
    simp only [valD_dec, hm]
    simp
end Go.Ab

/- Strings: what the library's functions upon them give. Conditions: lengths in range. -/
namespace Go.Ab
open Go.Proofs
set_option maxRecDepth 100000
set_option linter.unusedSimpArgs false

set_option maxHeartbeats 4000000 in
theorem trimLB_eq (n d : Nat) (l : List UInt8) (c : UInt8) (hn : l.length < n) : evalFn Tryd.prog cfg0 n (d+1) 45 [.tree (.str l), .tree (.int .u8 (c.toNat : Int))] = some (.tree (.str (l.dropWhile (· == c))), [[], []]) := by
  rw [evalFn_go _ Tryd.func45 (by unfold Tryd.f45; rfl) (by unfold Tryd.f45; decide) (Nat.le_of_ble_eq_true (by unfold Tryd.f45; rfl)) (by kernel_rfl)]
  simp only [zaa, zab, zac, zad, zae, zaf, zag, zah, zai, zaj, zak, zal, zam, zan, zao, zap, zaq, zar, zas, zat, zau, zav, zaw, zax, zay, zaz, zba, zbb, zbc, zbd, zbe, zbf, zbg, zbh, zbi, zbj, Nat.reduceBEq, Bool.or_self, Bool.or_false, Bool.or_true, Bool.and_true, Bool.and_false, Bool.true_and, Bool.false_and, Option.isNone_none, Option.isNone_some, Option.isSome_some, Option.isSome_none, zbk, zbl, zbm, zbn, zbo, zbp, zbq, zbr, zbs, zbt, zbu, zbv, zbw, zbx, zby, zbz, zca, zcb, zcc, zcd, zce, zcf, zcg, zch, zci, zcj, zck, zcl, zcm, zcn, zco, zcp, zcq, zcr, zcs, zct, zcu, zcv, zcw, zcx, zcy, zcz, zda, zdb, zdc, zdd, zde, zdf, Option.getD_some, Option.getD_none, zet, zeu, zev, zew, zex, zey, zez, zfa, Option.map_some, Option.map_none, Option.bind_some, List.map_cons, List.map_nil, List.cons_append, List.nil_append, ↓reduceIte, Nat.reduceEqDiff, Nat.reduceAdd, decide_true, decide_false, Bool.true_eq_false, Bool.false_eq_true, env0, List.getElem?_cons_zero, List.getElem?_cons_succ, zdg, zdh, zdi, zdj, zdk, zdl, zdm, zdn, ia22, ld31, zdo, zdp, zeg, List.toList_toArray, len9, ix9, zeh, zei, zej, zek, zel, den_loop]
  refine loop_ends (X := List UInt8) (fun x env s => env 0 = .str x ∧ env 1 = .int .u8 (c.toNat : Int) ∧ x.dropWhile (· == c) = l.dropWhile (· == c)) (fun x => x.length) (fun _ => (.tree (.str (l.dropWhile (· == c))), [[], []])) ?_ n l _ _ (by omega) ⟨rfl, rfl, rfl⟩
  intro k x hx ih env s ⟨e0, e1, hd⟩
  cases x with
  | nil =>
    have q0 : ¬ (((([] : List UInt8)).length : Nat) : Int) > 0 := by decide
    simp only [zaa, zab, zac, zad, zae, zaf, zag, zah, zai, zaj, zak, zal, zam, zan, zao, zap, zaq, zar, zas, zat, zau, zav, zaw, zax, zay, zaz, zba, zbb, zbc, zbd, zbe, zbf, zbg, zbh, zbi, zbj, Nat.reduceBEq, Bool.or_self, Bool.or_false, Bool.or_true, Bool.and_true, Bool.and_false, Bool.true_and, Bool.false_and, Option.isNone_none, Option.isNone_some, Option.isSome_some, Option.isSome_none, zbk, zbl, zbm, zbn, zbo, zbp, zbq, zbr, zbs, zbt, zbu, zbv, zbw, zbx, zby, zbz, zca, zcb, zcc, zcd, zce, zcf, zcg, zch, zci, zcj, zck, zcl, zcm, zcn, zco, zcp, zcq, zcr, zcs, zct, zcu, zcv, zcw, zcx, zcy, zcz, zda, zdb, zdc, zdd, zde, zdf, Option.getD_some, Option.getD_none, zet, zeu, zev, zew, zex, zey, zez, zfa, Option.map_some, Option.map_none, Option.bind_some, List.map_cons, List.map_nil, List.cons_append, List.nil_append, ↓reduceIte, Nat.reduceEqDiff, Nat.reduceAdd, decide_true, decide_false, Bool.true_eq_false, Bool.false_eq_true, zdg, zdh, zdi, zdj, zdk, zdl, zdm, zdn, ia22, ld31, zdo, zdp, zeg, List.toList_toArray, len9, ix9, zeh, zei, zej, zek, zel, e0, e1, q0]
    rw [← hd]
    exact finish_s _ _ _ _ _ _ _ (by simp only [zfa, ↓reduceIte, Nat.reduceEqDiff]; rfl) rfl
  | cons a r =>
    have q0 : (((a :: r).length : Nat) : Int) > 0 := by simp only [List.length_cons]; omega
    have q1 : (0 : Int) ≤ 0 ∧ (0 : Int) < (((a :: r).length : Nat) : Int) := ⟨Int.le_refl _, q0⟩
    have q2 : (a :: r).getD (0 : Int).toNat 0 = a := rfl
    have q3 : ((a.toNat : Int) == (c.toNat : Int)) = (a == c) := by
      rw [Bool.eq_iff_iff, beq_iff_eq, beq_iff_eq]
      exact ⟨fun h => UInt8.toNat_inj.mp (by omega), fun h => by rw [h]⟩
    by_cases hc : (a == c) = true
    · have q4 : (0 : Int) ≤ 1 ∧ (1 : Int) ≤ (((a :: r).length : Nat) : Int) := by omega
      have q5 : (a :: r).drop (1 : Int).toNat = r := rfl
      simp only [zaa, zab, zac, zad, zae, zaf, zag, zah, zai, zaj, zak, zal, zam, zan, zao, zap, zaq, zar, zas, zat, zau, zav, zaw, zax, zay, zaz, zba, zbb, zbc, zbd, zbe, zbf, zbg, zbh, zbi, zbj, Nat.reduceBEq, Bool.or_self, Bool.or_false, Bool.or_true, Bool.and_true, Bool.and_false, Bool.true_and, Bool.false_and, Option.isNone_none, Option.isNone_some, Option.isSome_some, Option.isSome_none, zbk, zbl, zbm, zbn, zbo, zbp, zbq, zbr, zbs, zbt, zbu, zbv, zbw, zbx, zby, zbz, zca, zcb, zcc, zcd, zce, zcf, zcg, zch, zci, zcj, zck, zcl, zcm, zcn, zco, zcp, zcq, zcr, zcs, zct, zcu, zcv, zcw, zcx, zcy, zcz, zda, zdb, zdc, zdd, zde, zdf, Option.getD_some, Option.getD_none, zet, zeu, zev, zew, zex, zey, zez, zfa, Option.map_some, Option.map_none, Option.bind_some, List.map_cons, List.map_nil, List.cons_append, List.nil_append, ↓reduceIte, Nat.reduceEqDiff, Nat.reduceAdd, decide_true, decide_false, Bool.true_eq_false, Bool.false_eq_true, zdg, zdh, zdi, zdj, zdk, zdl, zdm, zdn, ia22, ld31, zdo, zdp, zeg, List.toList_toArray, len9, ix9, zeh, zei, zej, zek, zel, e0, e1, q0, q1, and_self, q2, q3, hc, q4, q5]
      refine ih r _ _ (by simp only [List.length_cons]; omega) rfl ⟨?_, ?_, ?_⟩
      · simp only [zfa, ↓reduceIte, Nat.reduceEqDiff]
      · simp only [zfa, ↓reduceIte, Nat.reduceEqDiff, e1]
      · rw [← hd, List.dropWhile_cons, if_pos hc]
    · rw [Bool.not_eq_true] at hc
      simp only [zaa, zab, zac, zad, zae, zaf, zag, zah, zai, zaj, zak, zal, zam, zan, zao, zap, zaq, zar, zas, zat, zau, zav, zaw, zax, zay, zaz, zba, zbb, zbc, zbd, zbe, zbf, zbg, zbh, zbi, zbj, Nat.reduceBEq, Bool.or_self, Bool.or_false, Bool.or_true, Bool.and_true, Bool.and_false, Bool.true_and, Bool.false_and, Option.isNone_none, Option.isNone_some, Option.isSome_some, Option.isSome_none, zbk, zbl, zbm, zbn, zbo, zbp, zbq, zbr, zbs, zbt, zbu, zbv, zbw, zbx, zby, zbz, zca, zcb, zcc, zcd, zce, zcf, zcg, zch, zci, zcj, zck, zcl, zcm, zcn, zco, zcp, zcq, zcr, zcs, zct, zcu, zcv, zcw, zcx, zcy, zcz, zda, zdb, zdc, zdd, zde, zdf, Option.getD_some, Option.getD_none, zet, zeu, zev, zew, zex, zey, zez, zfa, Option.map_some, Option.map_none, Option.bind_some, List.map_cons, List.map_nil, List.cons_append, List.nil_append, ↓reduceIte, Nat.reduceEqDiff, Nat.reduceAdd, decide_true, decide_false, Bool.true_eq_false, Bool.false_eq_true, zdg, zdh, zdi, zdj, zdk, zdl, zdm, zdn, ia22, ld31, zdo, zdp, zeg, List.toList_toArray, len9, ix9, zeh, zei, zej, zek, zel, e0, e1, q0, q1, and_self, q2, q3, hc]
      rw [← hd, List.dropWhile_cons, hc]
      exact finish_s _ _ _ _ _ _ _ (by simp only [zfa, ↓reduceIte, Nat.reduceEqDiff]; rfl) rfl
set_option maxHeartbeats 4000000 in
theorem trimL0_eq (n d : Nat) (l : List UInt8) (hn : l.length < n) : evalFn Tryd.prog cfg0 n (d+2) 29 [.tree (.str l), .tree (.str [48])] = some (.tree (.str (l.dropWhile (· == 48))), [[], []]) := by
  rw [evalFn_go _ Tryd.func29 (by unfold Tryd.f29; rfl) (by unfold Tryd.f29; decide) (Nat.le_of_ble_eq_true (by unfold Tryd.f29; rfl)) (by kernel_rfl)]
  have c1 := fun D s => callA_trees (cfg := cfg0) (d := D) (s := s) (f := 45) (vs := [.str l, .int .u8 (((48 : UInt8).toNat : Nat) : Int)]) rfl (trimLB_eq n d l 48 hn)
  have q1 : (([48] : List UInt8) == []) = false := rfl
  have q2 : ((([48] : List UInt8).length : Int) == 1) = true := rfl
  have q3 : (0 : Int) ≤ 0 ∧ (0 : Int) < ((([48] : List UInt8).length : Nat) : Int) := by decide
  have q4 : ([48] : List UInt8).getD (0 : Int).toNat 0 = 48 := rfl
  have q5 : (((48 : UInt8).toNat : Nat) : Int) < 128 := by decide
  cases l with
  | nil =>
    have q0 : (([] : List UInt8) == []) = true := rfl
    simp only [zaa, zab, zac, zad, zae, zaf, zag, zah, zai, zaj, zak, zal, zam, zan, zao, zap, zaq, zar, zas, zat, zau, zav, zaw, zax, zay, zaz, zba, zbb, zbc, zbd, zbe, zbf, zbg, zbh, zbi, zbj, Nat.reduceBEq, Bool.or_self, Bool.or_false, Bool.or_true, Bool.and_true, Bool.and_false, Bool.true_and, Bool.false_and, Option.isNone_none, Option.isNone_some, Option.isSome_some, Option.isSome_none, zbk, zbl, zbm, zbn, zbo, zbp, zbq, zbr, zbs, zbt, zbu, zbv, zbw, zbx, zby, zbz, zca, zcb, zcc, zcd, zce, zcf, zcg, zch, zci, zcj, zck, zcl, zcm, zcn, zco, zcp, zcq, zcr, zcs, zct, zcu, zcv, zcw, zcx, zcy, zcz, zda, zdb, zdc, zdd, zde, zdf, Option.getD_some, Option.getD_none, zet, zeu, zev, zew, zex, zey, zez, zfa, Option.map_some, Option.map_none, Option.bind_some, List.map_cons, List.map_nil, List.cons_append, List.nil_append, ↓reduceIte, Nat.reduceEqDiff, Nat.reduceAdd, decide_true, decide_false, Bool.true_eq_false, Bool.false_eq_true, env0, List.getElem?_cons_zero, List.getElem?_cons_succ, zdg, zdh, zdi, zdj, zdk, zdl, zdm, zdn, ia22, ld31, zdo, zdp, zeg, List.toList_toArray, len9, ix9, zeh, zei, zej, zek, zel, q0]
    exact finish_s _ _ _ _ _ _ _ (by simp only [zfa, ↓reduceIte, Nat.reduceEqDiff]; rfl) rfl
  | cons a r =>
    have q0 : ((a :: r : List UInt8) == []) = false := rfl
    simp only [zaa, zab, zac, zad, zae, zaf, zag, zah, zai, zaj, zak, zal, zam, zan, zao, zap, zaq, zar, zas, zat, zau, zav, zaw, zax, zay, zaz, zba, zbb, zbc, zbd, zbe, zbf, zbg, zbh, zbi, zbj, Nat.reduceBEq, Bool.or_self, Bool.or_false, Bool.or_true, Bool.and_true, Bool.and_false, Bool.true_and, Bool.false_and, Option.isNone_none, Option.isNone_some, Option.isSome_some, Option.isSome_none, zbk, zbl, zbm, zbn, zbo, zbp, zbq, zbr, zbs, zbt, zbu, zbv, zbw, zbx, zby, zbz, zca, zcb, zcc, zcd, zce, zcf, zcg, zch, zci, zcj, zck, zcl, zcm, zcn, zco, zcp, zcq, zcr, zcs, zct, zcu, zcv, zcw, zcx, zcy, zcz, zda, zdb, zdc, zdd, zde, zdf, Option.getD_some, Option.getD_none, zet, zeu, zev, zew, zex, zey, zez, zfa, Option.map_some, Option.map_none, Option.bind_some, List.map_cons, List.map_nil, List.cons_append, List.nil_append, ↓reduceIte, Nat.reduceEqDiff, Nat.reduceAdd, decide_true, decide_false, Bool.true_eq_false, Bool.false_eq_true, env0, List.getElem?_cons_zero, List.getElem?_cons_succ, zdg, zdh, zdi, zdj, zdk, zdl, zdm, zdn, ia22, ld31, zdo, zdp, zeg, List.toList_toArray, len9, ix9, zeh, zei, zej, zek, zel, q0, q1, q2, q3, and_self, q4, q5, c1]
    exact finish_s _ _ _ _ _ _ _ (by simp only [zfa, ↓reduceIte, Nat.reduceEqDiff]) rfl
theorem cut_len (l : List UInt8) (h : (cutS l).1 = true) : (cutS l).2 = l.drop 1 ∧ 1 ≤ l.length := by
  unfold cutS at h ⊢
  cases l with
  | nil => cases h
  | cons a r =>
    simp only at h ⊢
    by_cases ha : a = 45
    · rw [if_pos ha]; exact ⟨rfl, by simp⟩
    · rw [if_neg ha] at h; cases h
theorem cut_no (l : List UInt8) (h : (cutS l).1 = false) : (cutS l).2 = l := by
  unfold cutS at h ⊢
  cases l with
  | nil => rfl
  | cons a r =>
    simp only at h ⊢
    by_cases ha : a = 45
    · rw [if_pos ha] at h; cases h
    · rw [if_neg ha]
theorem finish_sb (k : Bool) (xs : List Arg) (t t' : Nat) (env : Env) (s : St) (v : List UInt8) (b : Bool) (os : List (List AV)) (hv : env t = .str v) (hb : env t' = .bool b) (ho : outsA s 0 xs = some os) :
    finishP Tryd.prog k xs #[.tmp t, .tmp t'] env s = some (.tree (.tup [.str v, .bool b]), os) := by
  simp only [finishP_t2, finish, List.mapM_cons, List.mapM_nil, hv, hb, Option.pure_def, Option.bind_eq_bind, Option.bind_some, settleL, settle, Option.map_some, ho]
end Go.Ab

/- strings.Trim by the digits. Conditions: lengths in range. -/
namespace Go.Ab
open Go.Proofs
set_option maxRecDepth 100000
set_option linter.unusedSimpArgs false

def dgs : List UInt8 := [48, 49, 50, 51, 52, 53, 54, 55, 56, 57]
def setD : List AV := (List.range 256).map fun i => .bool (decide (48 ≤ i) && decide (i ≤ 57))
theorem setD_len : setD.length = 256 := by simp [setD]
theorem setD_at (c : UInt8) : setD[c.toNat]? = some (.bool (isDg c)) := by
  have h : c.toNat < 256 := UInt8.toNat_lt c
  simp [setD, isDg, h]
theorem mkSet_eq (d : Nat) : evalFn Tryd.prog cfg0 100000 (d+1) 46 [.tree (.str dgs)] = some (.tree (.tup [.agg setD, .bool true]), [[]]) := by kernel_rfl
theorem tk78 : tkOf Tryd.prog 82 = .arr 256 4 := by kernel_rfl
theorem esz78 : esz Tryd.prog 82 = some 256 := by kernel_rfl
theorem zero78 : zeroOf Tryd.prog 82 = some (List.replicate 256 (.bool false)) := by kernel_rfl
def ia78 (e : Ent) (p k : Nat) (i : Int) : Option AV := if (cellsE e k).isSome = true ∧ 0 ≤ i ∧ i < 256 then some (.ptr p k i.toNat) else none
theorem ia_78 (s : St) (p k : Nat) (kd : IntKind) (i : Int) : indexAddrA Tryd.prog 82 s (.ptr p k 0) (.int kd i) = ia78 (s p) p k i := by
  simp only [indexAddrA, tk78, esz4, Option.bind_some, live, cellsAt_E, ia78, Nat.zero_add, Nat.mul_one]; rfl
theorem ld_4at (s : St) (p t off : Nat) (xs : List AV) (h : s p = ⟨t, .buf xs⟩) : loadA Tryd.prog 4 s (.ptr p t off) = xs[off]? := by
  rw [zdx, h, ldE, cellsE_buf, if_pos rfl]
  simp only [Option.bind_some, partA, sh4]
set_option maxHeartbeats 4000000 in
theorem contains_eq (n d : Nat) (c : UInt8) : evalFn Tryd.prog cfg0 n (d+1) 65 [.ptr setD 0, .tree (.int .u8 (c.toNat : Int))] = some (.tree (.bool (isDg c)), [setD, []]) := by
  rw [evalFn_go _ Tryd.func65 (by unfold Tryd.f65; rfl) (by unfold Tryd.f65; decide) (Nat.le_of_ble_eq_true (by unfold Tryd.f65; rfl)) (by kernel_rfl)]
  have h : c.toNat < 256 := UInt8.toNat_lt c
  have s0 : st0 [.ptr setD 0, .tree (.int .u8 (c.toNat : Int))] 0 = ⟨0, .buf setD⟩ := rfl
  have i1 : ia78 ⟨0, .buf setD⟩ 0 0 (c.toNat : Int) = some (.ptr 0 0 c.toNat) := by
    rw [ia78, cellsE_buf, if_pos rfl, if_pos ⟨rfl, by omega, by omega⟩, Int.toNat_natCast]
  have l1 := ld_4at _ 0 0 c.toNat setD s0
  rw [setD_at] at l1
  simp only [zaa, zab, zac, zad, zae, zaf, zag, zah, zai, zaj, zak, zal, zam, zan, zao, zap, zaq, zar, zas, zat, zau, zav, zaw, zax, zay, zaz, zba, zbb, zbc, zbd, zbe, zbf, zbg, zbh, zbi, zbj, Nat.reduceBEq, Bool.or_self, Bool.or_false, Bool.or_true, Bool.and_true, Bool.and_false, Bool.true_and, Bool.false_and, Option.isNone_none, Option.isNone_some, Option.isSome_some, Option.isSome_none, zbk, zbl, zbm, zbn, zbo, zbp, zbq, zbr, zbs, zbt, zbu, zbv, zbw, zbx, zby, zbz, zca, zcb, zcc, zcd, zce, zcf, zcg, zch, zci, zcj, zck, zcl, zcm, zcn, zco, zcp, zcq, zcr, zcs, zct, zcu, zcv, zcw, zcx, zcy, zcz, zda, zdb, zdc, zdd, zde, zdf, Option.getD_some, Option.getD_none, zet, zeu, zev, zew, zex, zey, zez, zfa, Option.map_some, Option.map_none, Option.bind_some, List.map_cons, List.map_nil, List.cons_append, List.nil_append, ↓reduceIte, Nat.reduceEqDiff, Nat.reduceAdd, decide_true, decide_false, Bool.true_eq_false, Bool.false_eq_true, env0, List.getElem?_cons_zero, List.getElem?_cons_succ, zdg, zdh, zdi, zdj, zdk, zdl, zdm, zdn, ia22, ld31, zdo, zdp, zeg, List.toList_toArray, len9, ix9, zeh, zei, zej, zek, zel, opA_nilc, nilE_ptr, s0, cellsE_buf, Option.isSome_some, ia_78, i1, l1]
  exact finish_tree _ _ _ _ _ _ (.bool (isDg c)) _ _ (by simp only [zfa, ↓reduceIte, Nat.reduceEqDiff]) rfl rfl
theorem callA_ps {cfg : Cfg} {call : FuncId → List Arg → Option Out} {D : Nat} {s : St} {f : FuncId} {p t off : Nat} {xs : List AV} {kd : IntKind} {z : Int} {r : AV} (hs : s p = ⟨t, .buf xs⟩) (hc : call f [.ptr xs off, .tree (.int kd z)] = some (.tree r, [xs, []])) :
    callA cfg call D s f [.ptr p t off, .int kd z] = some (r, s) := by
  have hu := upd_eqv s p _ hs
  simp [callA, argsA, argA, hs, givesL, givesOf, lendsL, lendsOf, hc, backA, resA, hu]
theorem callA_sp {cfg : Cfg} {call : FuncId → List Arg → Option Out} {D : Nat} {s : St} {f : FuncId} {p t off : Nat} {xs : List AV} {l : List UInt8} {r : AV} (hs : s p = ⟨t, .buf xs⟩) (hc : call f [.tree (.str l), .ptr xs off] = some (.tree r, [[], xs])) :
    callA cfg call D s f [.str l, .ptr p t off] = some (r, s) := by
  have hu := upd_eqv s p _ hs
  simp [callA, argsA, argA, hs, givesL, givesOf, lendsL, lendsOf, hc, backA, resA, hu]
set_option maxHeartbeats 4000000 in
theorem trimLA_eq (n d : Nat) (l : List UInt8) (hn : l.length < n) : evalFn Tryd.prog cfg0 n (d+2) 47 [.tree (.str l), .ptr setD 0] = some (.tree (.str (l.dropWhile isDg)), [[], setD]) := by
  rw [evalFn_go _ Tryd.func47 (by unfold Tryd.f47; rfl) (by unfold Tryd.f47; decide) (Nat.le_of_ble_eq_true (by unfold Tryd.f47; rfl)) (by kernel_rfl)]
  simp only [zaa, zab, zac, zad, zae, zaf, zag, zah, zai, zaj, zak, zal, zam, zan, zao, zap, zaq, zar, zas, zat, zau, zav, zaw, zax, zay, zaz, zba, zbb, zbc, zbd, zbe, zbf, zbg, zbh, zbi, zbj, Nat.reduceBEq, Bool.or_self, Bool.or_false, Bool.or_true, Bool.and_true, Bool.and_false, Bool.true_and, Bool.false_and, Option.isNone_none, Option.isNone_some, Option.isSome_some, Option.isSome_none, zbk, zbl, zbm, zbn, zbo, zbp, zbq, zbr, zbs, zbt, zbu, zbv, zbw, zbx, zby, zbz, zca, zcb, zcc, zcd, zce, zcf, zcg, zch, zci, zcj, zck, zcl, zcm, zcn, zco, zcp, zcq, zcr, zcs, zct, zcu, zcv, zcw, zcx, zcy, zcz, zda, zdb, zdc, zdd, zde, zdf, Option.getD_some, Option.getD_none, zet, zeu, zev, zew, zex, zey, zez, zfa, Option.map_some, Option.map_none, Option.bind_some, List.map_cons, List.map_nil, List.cons_append, List.nil_append, ↓reduceIte, Nat.reduceEqDiff, Nat.reduceAdd, decide_true, decide_false, Bool.true_eq_false, Bool.false_eq_true, env0, List.getElem?_cons_zero, List.getElem?_cons_succ, zdg, zdh, zdi, zdj, zdk, zdl, zdm, zdn, ia22, ld31, zdo, zdp, zeg, List.toList_toArray, len9, ix9, zeh, zei, zej, zek, zel, den_loop]
  refine loop_ends (X := List UInt8) (fun x env s => env 0 = .str x ∧ env 1 = .ptr 1 0 0 ∧ s 1 = ⟨0, .buf setD⟩ ∧ x.dropWhile isDg = l.dropWhile isDg) (fun x => x.length) (fun _ => (.tree (.str (l.dropWhile isDg)), [[], setD])) ?_ n l _ _ (by omega) ⟨rfl, rfl, rfl, rfl⟩
  intro k x hx ih env s ⟨e0, e1, j1, hd⟩
  have ho : outsA s 0 [.tree (.str l), .ptr setD 0] = some [[], setD] := by simp only [outsA, j1, Option.bind_some, Option.map_some]
  cases x with
  | nil =>
    have q0 : ¬ (((([] : List UInt8)).length : Nat) : Int) > 0 := by decide
    simp only [zaa, zab, zac, zad, zae, zaf, zag, zah, zai, zaj, zak, zal, zam, zan, zao, zap, zaq, zar, zas, zat, zau, zav, zaw, zax, zay, zaz, zba, zbb, zbc, zbd, zbe, zbf, zbg, zbh, zbi, zbj, Nat.reduceBEq, Bool.or_self, Bool.or_false, Bool.or_true, Bool.and_true, Bool.and_false, Bool.true_and, Bool.false_and, Option.isNone_none, Option.isNone_some, Option.isSome_some, Option.isSome_none, zbk, zbl, zbm, zbn, zbo, zbp, zbq, zbr, zbs, zbt, zbu, zbv, zbw, zbx, zby, zbz, zca, zcb, zcc, zcd, zce, zcf, zcg, zch, zci, zcj, zck, zcl, zcm, zcn, zco, zcp, zcq, zcr, zcs, zct, zcu, zcv, zcw, zcx, zcy, zcz, zda, zdb, zdc, zdd, zde, zdf, Option.getD_some, Option.getD_none, zet, zeu, zev, zew, zex, zey, zez, zfa, Option.map_some, Option.map_none, Option.bind_some, List.map_cons, List.map_nil, List.cons_append, List.nil_append, ↓reduceIte, Nat.reduceEqDiff, Nat.reduceAdd, decide_true, decide_false, Bool.true_eq_false, Bool.false_eq_true, zdg, zdh, zdi, zdj, zdk, zdl, zdm, zdn, ia22, ld31, zdo, zdp, zeg, List.toList_toArray, len9, ix9, zeh, zei, zej, zek, zel, e0, e1, q0]
    rw [← hd]
    exact finish_s _ _ _ _ _ _ _ (by simp only [zfa, ↓reduceIte, Nat.reduceEqDiff]; rfl) ho
  | cons a r =>
    have q0 : (((a :: r).length : Nat) : Int) > 0 := by simp only [List.length_cons]; omega
    have q1 : (0 : Int) ≤ 0 ∧ (0 : Int) < (((a :: r).length : Nat) : Int) := ⟨Int.le_refl _, q0⟩
    have q2 : (a :: r).getD (0 : Int).toNat 0 = a := rfl
    have cc := fun D => callA_ps (cfg := cfg0) (D := D) j1 (contains_eq n d a)
    by_cases hc : isDg a = true
    · have q4 : (0 : Int) ≤ 1 ∧ (1 : Int) ≤ (((a :: r).length : Nat) : Int) := by omega
      have q5 : (a :: r).drop (1 : Int).toNat = r := rfl
      rw [hc] at cc
      simp only [zaa, zab, zac, zad, zae, zaf, zag, zah, zai, zaj, zak, zal, zam, zan, zao, zap, zaq, zar, zas, zat, zau, zav, zaw, zax, zay, zaz, zba, zbb, zbc, zbd, zbe, zbf, zbg, zbh, zbi, zbj, Nat.reduceBEq, Bool.or_self, Bool.or_false, Bool.or_true, Bool.and_true, Bool.and_false, Bool.true_and, Bool.false_and, Option.isNone_none, Option.isNone_some, Option.isSome_some, Option.isSome_none, zbk, zbl, zbm, zbn, zbo, zbp, zbq, zbr, zbs, zbt, zbu, zbv, zbw, zbx, zby, zbz, zca, zcb, zcc, zcd, zce, zcf, zcg, zch, zci, zcj, zck, zcl, zcm, zcn, zco, zcp, zcq, zcr, zcs, zct, zcu, zcv, zcw, zcx, zcy, zcz, zda, zdb, zdc, zdd, zde, zdf, Option.getD_some, Option.getD_none, zet, zeu, zev, zew, zex, zey, zez, zfa, Option.map_some, Option.map_none, Option.bind_some, List.map_cons, List.map_nil, List.cons_append, List.nil_append, ↓reduceIte, Nat.reduceEqDiff, Nat.reduceAdd, decide_true, decide_false, Bool.true_eq_false, Bool.false_eq_true, zdg, zdh, zdi, zdj, zdk, zdl, zdm, zdn, ia22, ld31, zdo, zdp, zeg, List.toList_toArray, len9, ix9, zeh, zei, zej, zek, zel, e0, e1, q0, q1, and_self, q2, cc, unA_not', Bool.not_true, q4, q5]
      refine ih r _ _ (by simp only [List.length_cons]; omega) rfl ⟨?_, ?_, j1, ?_⟩
      · simp only [zfa, ↓reduceIte, Nat.reduceEqDiff]
      · simp only [zfa, ↓reduceIte, Nat.reduceEqDiff, e1]
      · rw [← hd, List.dropWhile_cons, if_pos hc]
    · rw [Bool.not_eq_true] at hc
      rw [hc] at cc
      simp only [zaa, zab, zac, zad, zae, zaf, zag, zah, zai, zaj, zak, zal, zam, zan, zao, zap, zaq, zar, zas, zat, zau, zav, zaw, zax, zay, zaz, zba, zbb, zbc, zbd, zbe, zbf, zbg, zbh, zbi, zbj, Nat.reduceBEq, Bool.or_self, Bool.or_false, Bool.or_true, Bool.and_true, Bool.and_false, Bool.true_and, Bool.false_and, Option.isNone_none, Option.isNone_some, Option.isSome_some, Option.isSome_none, zbk, zbl, zbm, zbn, zbo, zbp, zbq, zbr, zbs, zbt, zbu, zbv, zbw, zbx, zby, zbz, zca, zcb, zcc, zcd, zce, zcf, zcg, zch, zci, zcj, zck, zcl, zcm, zcn, zco, zcp, zcq, zcr, zcs, zct, zcu, zcv, zcw, zcx, zcy, zcz, zda, zdb, zdc, zdd, zde, zdf, Option.getD_some, Option.getD_none, zet, zeu, zev, zew, zex, zey, zez, zfa, Option.map_some, Option.map_none, Option.bind_some, List.map_cons, List.map_nil, List.cons_append, List.nil_append, ↓reduceIte, Nat.reduceEqDiff, Nat.reduceAdd, decide_true, decide_false, Bool.true_eq_false, Bool.false_eq_true, zdg, zdh, zdi, zdj, zdk, zdl, zdm, zdn, ia22, ld31, zdo, zdp, zeg, List.toList_toArray, len9, ix9, zeh, zei, zej, zek, zel, e0, e1, q0, q1, and_self, q2, cc, unA_not', Bool.not_false]
      rw [← hd, List.dropWhile_cons, hc]
      exact finish_s _ _ _ _ _ _ _ (by simp only [zfa, ↓reduceIte, Nat.reduceEqDiff]; rfl) ho
def rtrim (l : List UInt8) : List UInt8 := (l.reverse.dropWhile isDg).reverse
theorem rtrim_snoc (l : List UInt8) (c : UInt8) : rtrim (l ++ [c]) = if isDg c = true then rtrim l else l ++ [c] := by
  unfold rtrim
  rw [List.reverse_append, List.reverse_singleton, List.singleton_append, List.dropWhile_cons]
  split
  · rfl
  · rw [List.reverse_cons, List.reverse_reverse]
theorem trim_nil (l : List UInt8) : (rtrim l).dropWhile isDg = [] ↔ l.all isDg = true := by
  have h1 : ∀ m : List UInt8, m.dropWhile isDg = [] ↔ ∀ x ∈ m, isDg x = true := fun m => by
    induction m with
    | nil => simp
    | cons a r ih =>
      rw [List.dropWhile_cons]
      by_cases h : isDg a = true
      · rw [if_pos h, ih]; simp [h]
      · rw [if_neg h]; simp [h]
  have h2 : ∀ m : List UInt8, ∀ x ∈ m.dropWhile isDg, x ∈ m := fun m x hx => (List.dropWhile_sublist isDg).mem hx
  have h3 : ∀ m : List UInt8, (∀ x ∈ m.dropWhile isDg, isDg x = true) → m.dropWhile isDg = [] := fun m h => by
    induction m with
    | nil => rfl
    | cons a r ih =>
      rw [List.dropWhile_cons] at h ⊢
      by_cases ha : isDg a = true
      · rw [if_pos ha] at h ⊢; exact ih h
      · rw [if_neg ha] at h
        exact absurd (h a (List.mem_cons_self)) ha
  rw [h1, List.all_eq_true]
  unfold rtrim
  constructor
  · intro h x hx
    have := h3 l.reverse fun y hy => h y (List.mem_reverse.mpr hy)
    exact (h1 l.reverse).mp this x (List.mem_reverse.mpr hx)
  · intro h x hx
    exact h x (List.mem_reverse.mp (h2 _ x (List.mem_reverse.mp hx)))
theorem tb78 : (List.replicate 256 (AV.bool false)).length = 256 := List.length_replicate
theorem spl78 : splice (List.replicate 256 (AV.bool false)) 0 setD = setD := by simp [splice, setD_len]
def stE78 (e : Ent) (p k : Nat) (s : St) : Option St := match e with | ⟨t, .buf xs⟩ => if t = k then (if 256 ≤ xs.length then some (upd s p ⟨t, .buf (splice xs 0 setD)⟩) else none) else none | _ => none
theorem st_78 (s : St) (p k : Nat) : storeA Tryd.prog 82 s (.ptr p k 0) (.agg setD) = stE78 (s p) p k s := by
  simp only [storeA, settle, Option.bind_some, stE78]
  cases h : s p with
  | mk t c => cases c <;> simp [esz78, setD_len]
theorem stE78_new (t p k : Nat) (s : St) : stE78 ⟨t, .buf (List.replicate 256 (AV.bool false))⟩ p k s = if t = k then some (upd s p ⟨t, .buf setD⟩) else none := by
  rw [stE78, if_pos (show 256 ≤ (List.replicate 256 (AV.bool false)).length by rw [tb78]; exact Nat.le_refl _), spl78]
end Go.Ab

/- The statement NumInts, abstractly. Conditions: two ints. -/
namespace Go.Ab
open Go.Proofs
set_option maxRecDepth 100000
set_option linter.unusedSimpArgs false

theorem esz3' : esz Tryd.prog 3 = some 1 := by kernel_rfl
theorem sh3' : shOf Tryd.prog 3 = some (false, 1) := by kernel_rfl
def stB (e : Ent) (p k off : Nat) (s : St) (v : AV) : Option St := match e with | ⟨t', .buf xs⟩ => if t' = k then (if off < xs.length then some (upd s p ⟨t', .buf (xs.set off v)⟩) else none) else none | _ => none
theorem st_3i (s : St) (p k off : Nat) (z : Int) : storeA Tryd.prog 3 s (.ptr p k off) (.int .i64 z) = stB (s p) p k off s (.int .i64 z) := by
  simp only [storeA, settle, Option.bind_some, stB]
  cases h : s p with
  | mk t c => cases c <;> simp [esz3', cellOk]
theorem stB_buf (t k p off : Nat) (s : St) (v : AV) (xs : List AV) : stB ⟨t, .buf xs⟩ p k off s v = if t = k then (if off < xs.length then some (upd s p ⟨t, .buf (xs.set off v)⟩) else none) else none := rfl
def stW (e : Ent) (p k : Nat) (s : St) (ys : List AV) : Option St := match e with | ⟨t', .buf xs⟩ => if t' = k then (if ys.length ≤ xs.length then some (upd s p ⟨t', .buf (splice xs 0 ys)⟩) else none) else none | _ => none
theorem stW_buf (t k p : Nat) (s : St) (a b c d e f g h a' b' c' d' e' f' g' h' : AV) : stW ⟨t, .buf [a', b', c', d', e', f', g', h']⟩ p k s [a, b, c, d, e, f, g, h] = if t = k then some (upd s p ⟨t, .buf [a, b, c, d, e, f, g, h]⟩) else none := by
  simp [stW, splice]
def iaE (e : Ent) (p k : Nat) (i : Int) : Option AV := if (cellsE e k).isSome = true ∧ 0 ≤ i ∧ i < 8 then some (.ptr p k i.toNat) else none
theorem iaE_buf (t p k : Nat) (i : Int) (xs : List AV) : iaE ⟨t, .buf xs⟩ p k i = if t = k then (if 0 ≤ i ∧ i < 8 then some (.ptr p k i.toNat) else none) else none := by
  rw [iaE, cellsE_buf]
  by_cases e : t = k <;> simp [e]
theorem ldE_3i (t k off : Nat) (xs : List AV) : ldE Tryd.prog 3 ⟨t, .buf xs⟩ k off = if t = k then xs[off]? else none := by
  rw [ldE, cellsE_buf]
  by_cases e : t = k
  · simp [e, partA, sh3']
  · simp [e]
theorem placeB_eq (n d : Nat) (v m : Int) (hm : 0 < m) (hm' : m ≤ 4294967296) : evalFn Tryd.prog cfg0 n (d+1) 14 [.tree (.int .i64 v), .tree (.int .i64 m)] = some (.tree (.int .i64 (placeN v m)), [[], []]) := by
  rw [evalFn_go _ Tryd.func14 (by unfold Tryd.f14; rfl) (by unfold Tryd.f14; decide) (Nat.le_of_ble_eq_true (by unfold Tryd.f14; rfl)) (by kernel_rfl)]
  have hr := place_range v m hm
  have e1 := i_remZ Tryd.prog 3 v m (by omega)
  have h1 := Int.tmod_lt_of_pos v hm
  unfold placeN at *
  by_cases h : v.tmod m < 0
  · rw [if_pos h] at hr ⊢
    have e2 := i_add Tryd.prog 3 (v.tmod m) m (by omega) (by omega)
    simp only [zaa, zab, zac, zad, zae, zaf, zag, zah, zai, zaj, zak, zal, zam, zan, zao, zap, zaq, zar, zas, zat, zau, zav, zaw, zax, zay, zaz, zba, zbb, zbc, zbd, zbe, zbf, zbg, zbh, zbi, zbj, Nat.reduceBEq, Bool.or_self, Bool.or_false, Bool.or_true, Bool.and_true, Bool.and_false, Bool.true_and, Bool.false_and, Option.isNone_none, Option.isNone_some, Option.isSome_some, Option.isSome_none, zbk, zbl, zbm, zbn, zbo, zbp, zbq, zbr, zbs, zbt, zbu, zbv, zbw, zbx, zby, zbz, zca, zcb, zcc, zcd, zce, zcf, zcg, zch, zci, zcj, zck, zcl, zcm, zcn, zco, zcp, zcq, zcr, zcs, zct, zcu, zcv, zcw, zcx, zcy, zcz, zda, zdb, zdc, zdd, zde, zdf, Option.getD_some, Option.getD_none, zet, zeu, zev, zew, zex, zey, zez, zfa, Option.map_some, Option.map_none, Option.bind_some, List.map_cons, List.map_nil, List.cons_append, List.nil_append, ↓reduceIte, Nat.reduceEqDiff, Nat.reduceAdd, decide_true, decide_false, Bool.true_eq_false, Bool.false_eq_true, env0, List.getElem?_cons_zero, List.getElem?_cons_succ, zdi, e1, h, e2]
    exact finish_tree _ _ _ _ _ _ (.int .i64 (v.tmod m + m)) _ _ (by simp only [zfa, ↓reduceIte]) rfl rfl
  · rw [if_neg h] at hr ⊢
    simp only [zaa, zab, zac, zad, zae, zaf, zag, zah, zai, zaj, zak, zal, zam, zan, zao, zap, zaq, zar, zas, zat, zau, zav, zaw, zax, zay, zaz, zba, zbb, zbc, zbd, zbe, zbf, zbg, zbh, zbi, zbj, Nat.reduceBEq, Bool.or_self, Bool.or_false, Bool.or_true, Bool.and_true, Bool.and_false, Bool.true_and, Bool.false_and, Option.isNone_none, Option.isNone_some, Option.isSome_some, Option.isSome_none, zbk, zbl, zbm, zbn, zbo, zbp, zbq, zbr, zbs, zbt, zbu, zbv, zbw, zbx, zby, zbz, zca, zcb, zcc, zcd, zce, zcf, zcg, zch, zci, zcj, zck, zcl, zcm, zcn, zco, zcp, zcq, zcr, zcs, zct, zcu, zcv, zcw, zcx, zcy, zcz, zda, zdb, zdc, zdd, zde, zdf, Option.getD_some, Option.getD_none, zet, zeu, zev, zew, zex, zey, zez, zfa, Option.map_some, Option.map_none, Option.bind_some, List.map_cons, List.map_nil, List.cons_append, List.nil_append, ↓reduceIte, Nat.reduceEqDiff, Nat.reduceAdd, decide_true, decide_false, Bool.true_eq_false, Bool.false_eq_true, env0, List.getElem?_cons_zero, List.getElem?_cons_succ, zdi, e1, h]
    exact finish_tree _ _ _ _ _ _ (.int .i64 (v.tmod m)) _ _ (by simp only [zfa, ↓reduceIte]) rfl rfl
theorem cPlaceB (n d : Nat) (v m : Int) (hm : 0 < m) (hm' : m ≤ 4294967296) (D : Nat) (s : St) : callA cfg0 (evalFn Tryd.prog cfg0 n (d+1)) D s 14 [.int .i64 v, .int .i64 m] = some (.int .i64 (placeN v m), s) :=
  callA_int2 _ _ _ _ _ _ _ _ _ (placeB_eq n d v m hm hm')

section
variable (a b : Int)
/-- What comes of an op. -/
def resI (k : Nat) : Int := match k with
  | 1 => a + b | 2 => a - b | 3 => a * b | 4 => a.tdiv b | 5 => a.tmod b | k => logZ k a b
def wantI (k : Nat) : List AV := [.int .i64 (a + b), .int .i64 (a - b), .int .i64 (a * b), .int .i64 (if 4 < k ∧ b ≠ 0 then a.tdiv b else 0), .int .i64 (if 5 < k ∧ b ≠ 0 then a.tmod b else 0), .int .i64 (logZ 6 a b), .int .i64 (logZ 7 a b), .int .i64 (logZ 8 a b)]
theorem want_len (k : Nat) : (wantI a b k).length = 8 := rfl
theorem want_next (k : Nat) (h : ¬ (k = 4 ∨ k = 5) ∨ b = 0) : wantI a b (k + 1) = wantI a b k := by
  unfold wantI
  have e4 : (4 < k + 1 ∧ b ≠ 0) ↔ (4 < k ∧ b ≠ 0) := by omega
  have e5 : (5 < k + 1 ∧ b ≠ 0) ↔ (5 < k ∧ b ≠ 0) := by omega
  simp only [e4, e5]
theorem want_4 (h : b ≠ 0) : (wantI a b 4).set 3 (.int .i64 (a.tdiv b)) = wantI a b 5 := by simp [wantI, h]
theorem want_5 (h : b ≠ 0) : (wantI a b 5).set 4 (.int .i64 (a.tmod b)) = wantI a b 6 := by simp [wantI, h]
theorem want_at (k : Nat) (h : 1 ≤ k) (h8 : k ≤ 8) (hb : ¬ (k = 4 ∨ k = 5)) : (wantI a b k)[k - 1]? = some (.int .i64 (resI a b k)) := by
  match k, h, h8, hb with
  | 1, _, _, _ => rfl
  | 2, _, _, _ => rfl
  | 3, _, _, _ => rfl
  | 4, _, _, hb => exact absurd (.inl rfl) hb
  | 5, _, _, hb => exact absurd (.inr rfl) hb
  | 6, _, _, _ => rfl
  | 7, _, _, _ => rfl
  | 8, _, _, _ => rfl
variable (ha : a.natAbs ≤ 2147483648) (hb : b.natAbs ≤ 2147483648)
include ha hb
theorem mul_fit : -4611686018427387904 ≤ a * b ∧ a * b ≤ 4611686018427387904 := by
  have h : (a * b).natAbs ≤ 4611686018427387904 := by
    rw [Int.natAbs_mul]
    exact Nat.mul_le_mul ha hb
  omega
theorem log_fitI (k : Nat) : (logZ k a b).natAbs ≤ 4294967296 := by
  rw [logZ_n 32 k (by decide) (by omega) (by omega)]
  exact logW_fit 32 k (by omega) (by omega)
theorem res_fit (k : Nat) : -9223372036854775808 ≤ resI a b k ∧ resI a b k < 9223372036854775808 := by
  have h1 := mul_fit a b ha hb
  have h2 := log_fitI a b ha hb k
  have h4 : (a.tdiv b).natAbs ≤ a.natAbs := by rw [← quo_sgn, sgn_abs]; exact Nat.div_le_self _ _
  have h5 : (a.tmod b).natAbs ≤ a.natAbs := by rw [← rem_sgn, sgn_abs]; exact Nat.mod_le _ _
  unfold resI
  split <;> omega
omit ha hb in
theorem int_res (z : Int) (h : -9223372036854775808 ≤ z) (h' : z < 9223372036854775808) (D : Nat) (s : St) : callA cfg0 (evalFn Tryd.prog cfg0 100000 12) D s 28 [encZ z] = some (.tup [.int .i64 z, .bool true], s) := by
  have big := B12_big
  have := cInt 100000 9 (Nat.le_refl _) (isN_Z z (by omega)) D s
  have hi : isI64 z = true := by unfold isI64; rw [decide_eq_true h, decide_eq_true h']; rfl
  rw [intZ, if_pos hi] at this
  exact this
theorem and_I (P : Program) (t : TypeId) : binA P .and t (.int .i64 a) (.int .i64 b) = some (.int .i64 (logZ 6 a b)) := by
  have e := and64 (a := a) (b := b) (by omega) (by omega)
  rw [← logZ_n 63 6 (by decide) (by omega) (by omega)] at e
  rw [← e]; rfl
theorem or_I (P : Program) (t : TypeId) : binA P .or t (.int .i64 a) (.int .i64 b) = some (.int .i64 (logZ 7 a b)) := by
  have e := or64 (a := a) (b := b) (by omega) (by omega)
  rw [← logZ_n 63 7 (by decide) (by omega) (by omega)] at e
  rw [← e]; rfl
theorem xor_I (P : Program) (t : TypeId) : binA P .xor t (.int .i64 a) (.int .i64 b) = some (.int .i64 (logZ 8 a b)) := by
  have e := xor64 (a := a) (b := b) (by omega) (by omega)
  rw [← logZ_n 63 8 (by decide) (by omega) (by omega)] at e
  rw [← e]; rfl
end
end Go.Ab

/- A number's text. Conditions: a number that is shown. -/
namespace Go.Ab
open Go.Proofs
set_option maxRecDepth 100000
set_option linter.unusedSimpArgs false

/-! ### Types -/
theorem tk64 : tkOf Tryd.prog 53 = .sl 9 := by kernel_rfl
theorem esz9 : esz Tryd.prog 9 = some 1 := by kernel_rfl
theorem zero9 : zeroOf Tryd.prog 9 = some [.str []] := by kernel_rfl
theorem by9 : byOf Tryd.prog 9 = 16 := by kernel_rfl
theorem tk65 : tkOf Tryd.prog 63 = .arr 9 5 := by kernel_rfl
theorem tk66 : tkOf Tryd.prog 64 = .sl 5 := by kernel_rfl
theorem esz5 : esz Tryd.prog 5 = some 1 := by kernel_rfl
theorem zero65 : zeroOf Tryd.prog 63 = some (List.replicate 9 (.int .u8 0)) := by kernel_rfl
theorem conv3_5 (s : St) (x : Nat) (h : x < 256) : convA Tryd.prog 3 5 s (.int .i64 (x : Int)) = some (.int .u8 (x : Int)) := by
  have e : IntKind.u8.wrap (x : Int) = (x : Int) := by
    simp [IntKind.wrap, IntKind.bits, IntKind.signed]; omega
  have t3 : tkOf Tryd.prog 3 = .int .i64 := by kernel_rfl
  simp only [convA, t3, tk5, e]
def ia65 (e : Ent) (p k : Nat) (i : Int) : Option AV := if (cellsE e k).isSome = true ∧ 0 ≤ i ∧ i < 9 then some (.ptr p k i.toNat) else none
theorem ia_65 (s : St) (p k : Nat) (i : Int) : indexAddrA Tryd.prog 63 s (.ptr p k 0) (.int .i64 i) = ia65 (s p) p k i := by
  simp only [indexAddrA, tk65, esz5, Option.bind_some, live, cellsAt_E, ia65, Nat.zero_add, Nat.mul_one]; rfl
theorem ia65_buf (t p k : Nat) (i : Int) (xs : List AV) : ia65 ⟨t, .buf xs⟩ p k i = if t = k then (if 0 ≤ i ∧ i < 9 then some (.ptr p k i.toNat) else none) else none := by
  rw [ia65, cellsE_buf]
  by_cases e : t = k <;> simp [e]
theorem st_5 (s : St) (p k off : Nat) (z : Int) : storeA Tryd.prog 5 s (.ptr p k off) (.int .u8 z) = stB (s p) p k off s (.int .u8 z) := by
  simp only [storeA, settle, Option.bind_some, stB]
  cases h : s p with
  | mk t c => cases c <;> simp [esz5, cellOk]
def sl65 (e : Ent) (p k : Nat) : Option AV := (cellsE e k).bind fun xs => if 9 ≤ xs.length then some (.own p k 0 9 1) else none
theorem sl_65 (s : St) (p k : Nat) : sliceA Tryd.prog 63 s (.ptr p k 0) none none none = sl65 (s p) p k := by
  simp only [sliceA, tk65, esz5, boundA, Option.bind_some, cellsAt_E, sl65, Option.isSome_none, Bool.false_eq_true, if_false]
  cases cellsE (s p) k <;> simp
def cvB (e : Ent) (k : Nat) : Option AV := (cellsE e k).bind fun xs => if 0 + 9 ≤ xs.length then (bytesOf ((xs.drop 0).take 9)).map .str else none
theorem conv66_9 (s : St) (p k : Nat) : convA Tryd.prog 64 9 s (.own p k 0 9 1) = cvB (s p) k := by
  simp only [convA, tk66, tk9, tk5, cellsAt_E, cvB]
def dcell (b : UInt8) : AV := .int .u8 (b.toNat : Int)
theorem bytes_d : ∀ l : List UInt8, bytesOf (l.map dcell) = some l
  | [] => rfl
  | a :: r => by
    have : UInt8.ofNat (a.toNat : Int).toNat = a := by rw [Int.toNat_natCast]; exact UInt8.ofNat_toNat
    simp only [List.map_cons, dcell, bytesOf]
    rw [bytes_d r, Option.map_some, this]
theorem sl65_d (t p k : Nat) (l : List UInt8) (h : l.length = 9) : sl65 ⟨t, .buf (l.map dcell)⟩ p k = if t = k then some (.own p k 0 9 1) else none := by
  rw [sl65, cellsE_buf]
  by_cases e : t = k <;> simp [e, h]
theorem cvB_d (t k : Nat) (l : List UInt8) (h : l.length = 9) : cvB ⟨t, .buf (l.map dcell)⟩ k = if t = k then some (.str l) else none := by
  rw [cvB, cellsE_buf]
  by_cases e : t = k
  · rw [if_pos e, if_pos e, Option.bind_some, if_pos (by simp [h]), List.drop_zero, List.take_of_length_le (by simp [h]), bytes_d]; rfl
  · rw [if_neg e, if_neg e]; rfl
def one64 (x : AV) : Option AV := (fillA (fun i => some (i * 1, 1)) (rep 1 [.str []]) [(0, x)]).map (.sl · 1 .tight)
theorem one64_str (l : List UInt8) : one64 (.str l) = some (.sl [.str l] 1 .tight) := rfl
theorem opA_one64 (call : FuncId → List Arg → Option Out) (q : Bool) (d : Option Tmp) (ty : TypeId) (pos : String) (af : Array Edge) (g : Option (Nat × Bool)) (t : Nat) (env : Env) (s : St) (x : Operand) :
    opA Tryd.prog cfg0 call q ⟨d, .buildSlice 53 1 #[(0, x)], ty, pos, af, g⟩ t env s = (one64 (ev env x)).map (·, s) := by
  rw [opA_bs]
  simp only [tk64, esz9, zero9, Option.bind_some, List.map_cons, List.map_nil]
  rfl
theorem append64 (d : Nat) (s : St) (a : List UInt8) (ss : List (List UInt8)) (g : Grip) (h : ss.length ≤ 1000) : appendA Tryd.prog #[53, 53] d s (.sl [.str a] 1 .tight) (.sl (ss.map .str) ss.length g) = some (.sl ((a :: ss).map .str) (a :: ss).length (.tok d ((s d).t + 1)), upd s d ⟨(s d).t + 1, .tok 1⟩) := by
  have e1 : (#[53, 53] : Array TypeId)[0]? = some 53 := rfl
  have e2 : (#[53, 53] : Array TypeId)[1]? = some 53 := rfl
  simp only [appendA, e1, e2, Option.map_some, tk64, esz9, Option.bind_some, moreA, baseA, by9, zero9, List.length_map, Nat.mul_one, if_true, List.length_cons, List.length_nil, Nat.zero_add]
  rw [if_pos ⟨by omega, by omega, trivial⟩]
  simp [Nat.add_comm]

/-! ### Join -/
theorem inter_nil : ∀ ss : List (List UInt8), List.intercalate [] ss = ss.flatten
  | [] => rfl
  | [a] => by simp [List.intercalate]
  | a :: b :: r => by
    have := inter_nil (b :: r)
    simp only [List.intercalate, List.intersperse, List.flatten_cons, List.nil_append] at this ⊢
    rw [this]
theorem strs_map : ∀ ss : List (List UInt8), strsOf (ss.map .str) = some ss
  | [] => rfl
  | a :: r => by simp only [List.map_cons, strsOf, strs_map r, Option.map_some]
theorem evalJoin (n d : Nat) (ss : List (List UInt8)) (g : Grip) (h : ss.flatten.length ≤ 1000000) (hl : ss.length ≤ 1000000) : evalFn Tryd.prog cfg0 n (d+1) 30 [.tree (.sl (ss.map .str) ss.length g), .tree (.str [])] = some (.tree (.str ss.flatten), [[], []]) := by
  have hp : cfg0.prim 30 [.tree (.sl (ss.map .str) ss.length g), .tree (.str [])] = some (.tree (.str ss.flatten), [[], []]) := by
    rw [show cfg0.prim = prim0 from rfl, prim0, if_pos (beq_self_eq_true _)]
    simp only [joinP, strs_map, Option.bind_some, inter_nil]
    rw [if_pos ⟨trivial, by omega, by omega⟩]
  rw [evalFn, hp]
theorem cJoin (n d : Nat) (ss : List (List UInt8)) (g : Grip) (h : ss.flatten.length ≤ 1000000) (hl : ss.length ≤ 1000000) (D : Nat) (s : St) : callA cfg0 (evalFn Tryd.prog cfg0 n (d+1)) D s 30 [.sl (ss.map .str) ss.length g, .str []] = some (.str ss.flatten, s) := by
  have e := fun g => evalJoin n d ss g h hl
  have hf : flatR (.tree (.str ss.flatten)) = true := rfl
  cases g with
  | tok p t => simp [callA, argsA, argA, givesL, givesOf, lendsL, lendsOf, e, backA, resA, hf, lin0]
  | _ => simp [callA, argsA, argA, givesL, givesOf, lendsL, lendsOf, e, backA, resA, hf]
end Go.Ab
