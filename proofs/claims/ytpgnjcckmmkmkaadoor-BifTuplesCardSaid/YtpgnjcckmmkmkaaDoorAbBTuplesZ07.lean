/- Several texts put together: AbbJ13, AbbLawBTuples. Conditions: as each part says. -/
import Derived.Test.YtpgnjcckmmkmkaaDoorAbBTuplesZ06
import Derived.Test.YtpgnjcckmmkmkaaDoorAbBTuplesZ05
/- The statement BifTuples (CFG2). Conditions: numbers that Go has. -/
namespace Go.Ab
open Go.Proofs
set_option maxRecDepth 100000
set_option linter.unusedSimpArgs false

theorem one26_c (call : FuncId → List Arg → Option Out) (q : Bool) (d : Option Tmp) (ty : TypeId) (pos : String) (af : Array Edge) (g : Option (Nat × Bool)) (t : Nat) (env : Env) (s : St) (x : Operand) :
    opA Tryd.prog cfg2 call q ⟨d, .buildSlice 22 1 #[(0, x)], ty, pos, af, g⟩ t env s = (one26 (ev env x)).map (·, s) := by
  rw [opA_bs]
  simp only [tkTk, eszT, zeroT, Option.bind_some, List.map_cons, List.map_nil]
  rfl
theorem one26_KT (e : T) : one26 (.agg (cellsT e)) = some (.sl (cellsT e) 1 .tight) := by
  have := one26_K1 e
  simp only [cellsK, List.append_nil] at this
  exact this
theorem st0_3J (a b c : AV) : st0 [.tree a, .tree b, .tree c] = dead := by
  funext p
  match p with
  | 0 => rfl
  | 1 => rfl
  | 2 => rfl
  | p + 3 => rfl
theorem bdT_5J : buildA Tryd.prog 29 [(0, .int .i64 5)] = some (.agg (cellsT (tupT .n []))) := bdT_0 5
set_option maxHeartbeats 32000000 in
theorem tuples_B (n : Nat) (hn : 100 ≤ n) (l : List Int) (a1 v : Int) (hx : ∀ x ∈ l, I64 x) (hv : I64 v) :
    evalFn Tryd.prog cfg2 n 10 4 [.tree (.sl (intsA l) l.length .loose), .tree (.int .i64 a1), .tree (.int .i64 v)] = some (.tree (.bool true), [[], [], []]) := by
  rw [evalFn_go _ Tryd.func4 (by unfold Tryd.f4; rfl) (by unfold Tryd.f4; decide) (Nat.le_of_ble_eq_true (by unfold Tryd.f4; rfl)) (by kernel_rfl)]
  have wa := fun D st => callA_trees (cfg := cfg2) (d := D) (s := st) (f := 7) (vs := []) rfl (awake2 n 8)
  have il := fun st => lenInts st (intsA l) l.length .loose
  by_cases hl : (l.length : Int) > 40
  · simp only [zaa, zab, zac, zad, zae, zaf, zag, zah, zai, zaj, zak, zal, zam, zan, zao, zap, zaq, zar, zas, zat, zau, zav, zaw, zax, zay, zaz, zba, zbb, zbc, zbd, zbe, zbf, zbg, zbh, zbi, zbj, zbk, zbl, zbm, zbn, keep2, zbp, zbq, Nat.reduceBEq, Bool.or_self, Bool.or_false, Bool.or_true, Bool.and_true, Bool.and_false, Bool.true_and, Bool.false_and, Option.isNone_none, Option.isNone_some, Option.isSome_some, Option.isSome_none, zbr, zbs, zbt, zbu, zbv, zbw, zbx, zby, zbz, zca, zcb, zcc, zcd, zce, zcf, zcg, zch, zci, zcj, zck, zcl, zcm, zcn, zco, zcp, zcq, zcr, own2, String.reduceAppend, String.reduceBEq, Bool.or_false, Bool.or_true, Bool.or_self, zcs, zct, zcu, zcv, zcw, zcx, zcy, zcz, zda, zdb, zdc, zdd, zde, zdf, zdg, zdh, zdi, zdj, zdk, zdl, zdm, zdn, zdo, zdp, zdq, zdr, zds, zdt, zdu, Option.getD_some, Option.getD_none, zfb, zfc, zfd, zfe, zff, zfg, zfh, zfi, Option.map_some, Option.map_none, Option.bind_some, List.map_cons, List.map_nil, List.cons_append, List.nil_append, ↓reduceIte, Nat.reduceEqDiff, Nat.reduceAdd, decide_true, decide_false, Bool.true_eq_false, Bool.false_eq_true, env0, List.getElem?_cons_zero, List.getElem?_cons_succ, zdv, zdw, zdx, zdy, zdz, zea, zeb, zec, ia22, ld31, zed, zee, zef, zeg, zeh, zei, zej, zek, zel, zem, zen, zeo, zep, zeq, zer, fa_0, fa_1, zes, bd_0, bd_2, zet, fd_1, zeu, Nat.zero_add, il, hl, wa]
    exact finish_b _ _ _ _ _ _ _ (by first | (simp only [zfi, ↓reduceIte, Nat.reduceEqDiff]; done) | (simp only [zfi, ↓reduceIte, Nat.reduceEqDiff]; rfl)) rfl
  have hl40 : l.length ≤ 40 := by omega
  have hc : codeBU = .seq (seqL codeBU) (.seq (seqL bu1) (.seq (seqL bu2) (.seq (seqL bu3) bu4))) := rfl
  show den _ _ _ _ codeBU _ _ _ = _
  rw [hc]
  simp only [seqL, bu3, bu2, bu1, codeBU, seqR, Tryd.f4, Option.getD_some, zaa, zab, zac, zad, zae, zaf, zag, zah, zai, zaj, zak, zal, zam, zan, zao, zap, zaq, zar, zas, zat, zau, zav, zaw, zax, zay, zaz, zba, zbb, zbc, zbd, zbe, zbf, zbg, zbh, zbi, zbj, zbk, zbl, zbm, zbn, keep2, zbp, zbq, Nat.reduceBEq, Bool.or_self, Bool.or_false, Bool.or_true, Bool.and_true, Bool.and_false, Bool.true_and, Bool.false_and, Option.isNone_none, Option.isNone_some, Option.isSome_some, Option.isSome_none, zbr, zbs, zbt, zbu, zbv, zbw, zbx, zby, zbz, zca, zcb, zcc, zcd, zce, zcf, zcg, zch, zci, zcj, zck, zcl, zcm, zcn, zco, zcp, zcq, zcr, own2, String.reduceAppend, String.reduceBEq, Bool.or_false, Bool.or_true, Bool.or_self, zcs, zct, zcu, zcv, zcw, zcx, zcy, zcz, zda, zdb, zdc, zdd, zde, zdf, zdg, zdh, zdi, zdj, zdk, zdl, zdm, zdn, zdo, zdp, zdq, zdr, zds, zdt, zdu, Option.getD_some, Option.getD_none, zfb, zfc, zfd, zfe, zff, zfg, zfh, zfi, Option.map_some, Option.map_none, Option.bind_some, List.map_cons, List.map_nil, List.cons_append, List.nil_append, ↓reduceIte, Nat.reduceEqDiff, Nat.reduceAdd, decide_true, decide_false, Bool.true_eq_false, Bool.false_eq_true, env0, List.getElem?_cons_zero, List.getElem?_cons_succ, zdv, zdw, zdx, zdy, zdz, zea, zeb, zec, ia22, ld31, zed, zee, zef, zeg, zeh, zei, zej, zek, zel, zem, zen, zeo, zep, zeq, zer, fa_0, fa_1, zes, bd_0, bd_2, zet, fd_1, zeu, Nat.zero_add, il, hl, zeroT, bdT_5J, st_Tt, stT_6, den_loop]
  refine loop_ends (X := Nat) (fun i env s => env 0 = .sl (intsA l) l.length .loose ∧ env 1 = .int .i64 a1 ∧ env 2 = .int .i64 v ∧ env 7 = .ptr 7 1 0 ∧ env 8 = .int .i64 (i : Int) ∧ i ≤ l.length ∧ (∃ x, Ap s 37 x ((l.take i).map intT) ∧ TupM (s 7) ((l.take i).map intT) x) ∧ ∀ q, q ≠ 7 → q ≠ 37 → (s q).t = 0) (fun i => l.length - i) (fun _ => (.tree (.bool true), [[], [], []])) ?_ n 0 _ _ (by omega) ⟨(by first | (simp only [zfi, ↓reduceIte, Nat.reduceEqDiff, env0, List.getElem?_cons_zero, List.getElem?_cons_succ]; done) | (simp only [zfi, ↓reduceIte, Nat.reduceEqDiff, env0, List.getElem?_cons_zero, List.getElem?_cons_succ]; rfl)), (by first | (simp only [zfi, ↓reduceIte, Nat.reduceEqDiff, env0, List.getElem?_cons_zero, List.getElem?_cons_succ]; done) | (simp only [zfi, ↓reduceIte, Nat.reduceEqDiff, env0, List.getElem?_cons_zero, List.getElem?_cons_succ]; rfl)), (by first | (simp only [zfi, ↓reduceIte, Nat.reduceEqDiff, env0, List.getElem?_cons_zero, List.getElem?_cons_succ]; done) | (simp only [zfi, ↓reduceIte, Nat.reduceEqDiff, env0, List.getElem?_cons_zero, List.getElem?_cons_succ]; rfl)), (by first | (simp only [zfi, ↓reduceIte, Nat.reduceEqDiff]; done) | (simp only [zfi, ↓reduceIte, Nat.reduceEqDiff]; rfl)), (by first | (simp only [zfi, ↓reduceIte, Nat.reduceEqDiff]; done) | (simp only [zfi, ↓reduceIte, Nat.reduceEqDiff]; rfl)), Nat.zero_le _, ⟨.sl [] 0 .nil, .inl ⟨rfl, rfl⟩, .inl ⟨rfl, rfl, (by first | (simp only [zfi, ↓reduceIte, Nat.reduceEqDiff]; done) | (simp only [zfi, ↓reduceIte, Nat.reduceEqDiff]; rfl))⟩⟩, fun q h7 _ => by rw [upd_ne _ _ h7, upd_ne _ _ h7, st0_3J]; rfl⟩
  rintro rd i hrd ih env st ⟨e0, e1, e2, e7, e8, hi, ⟨x, ap, tm⟩, hz⟩
  by_cases hil : i < l.length
  rotate_left
  · have q1 : ¬ ((i : Int) < (l.length : Int)) := by omega
    have hie : l.take i = l := List.take_of_length_le (by omega)
    rw [hie] at tm
    simp only [zaa, zab, zac, zad, zae, zaf, zag, zah, zai, zaj, zak, zal, zam, zan, zao, zap, zaq, zar, zas, zat, zau, zav, zaw, zax, zay, zaz, zba, zbb, zbc, zbd, zbe, zbf, zbg, zbh, zbi, zbj, zbk, zbl, zbm, zbn, keep2, zbp, zbq, Nat.reduceBEq, Bool.or_self, Bool.or_false, Bool.or_true, Bool.and_true, Bool.and_false, Bool.true_and, Bool.false_and, Option.isNone_none, Option.isNone_some, Option.isSome_some, Option.isSome_none, zbr, zbs, zbt, zbu, zbv, zbw, zbx, zby, zbz, zca, zcb, zcc, zcd, zce, zcf, zcg, zch, zci, zcj, zck, zcl, zcm, zcn, zco, zcp, zcq, zcr, own2, String.reduceAppend, String.reduceBEq, Bool.or_false, Bool.or_true, Bool.or_self, zcs, zct, zcu, zcv, zcw, zcx, zcy, zcz, zda, zdb, zdc, zdd, zde, zdf, zdg, zdh, zdi, zdj, zdk, zdl, zdm, zdn, zdo, zdp, zdq, zdr, zds, zdt, zdu, Option.getD_some, Option.getD_none, zfb, zfc, zfd, zfe, zff, zfg, zfh, zfi, Option.map_some, Option.map_none, Option.bind_some, List.map_cons, List.map_nil, List.cons_append, List.nil_append, ↓reduceIte, Nat.reduceEqDiff, Nat.reduceAdd, decide_true, decide_false, Bool.true_eq_false, Bool.false_eq_true, zdv, zdw, zdx, zdy, zdz, zea, zeb, zec, ia22, ld31, zed, zee, zef, zeg, zeh, zei, zej, zek, zel, zem, zen, zeo, zep, zeq, zer, fa_0, fa_1, zes, bd_0, bd_2, zet, fd_1, zeu, Nat.zero_add, e0, e1, e2, e7, e8, il, q1]
    exact bu4_eq n hn l a1 v hx hv hl40 x _ _ (by first | (simp only [zfi, ↓reduceIte, Nat.reduceEqDiff, e0]; done) | (simp only [zfi, ↓reduceIte, Nat.reduceEqDiff, e0]; rfl)) (by first | (simp only [zfi, ↓reduceIte, Nat.reduceEqDiff, e1]; done) | (simp only [zfi, ↓reduceIte, Nat.reduceEqDiff, e1]; rfl)) (by first | (simp only [zfi, ↓reduceIte, Nat.reduceEqDiff, e2]; done) | (simp only [zfi, ↓reduceIte, Nat.reduceEqDiff, e2]; rfl)) (by first | (simp only [zfi, ↓reduceIte, Nat.reduceEqDiff, e7]; done) | (simp only [zfi, ↓reduceIte, Nat.reduceEqDiff, e7]; rfl)) tm (hz 10 (by decide) (by decide)) (hz 11 (by decide) (by decide)) (hz 13 (by decide) (by decide)) (hz 14 (by decide) (by decide))
  have q1 : (i : Int) < (l.length : Int) := by omega
  have ii := fun st => iaInts st (intsA l) l.length .loose i hil
  have ldi := fun st => ldInts l i hil st
  have hxi : I64 l[i] := hx _ (List.getElem_mem hil)
  have c1 := callQ_trees (f := 13) (vs := [.int .i64 l[i]]) rfl (I1_2 n 8 l[i] hxi)
  simp only [encT] at c1
  have ht : l.take (i + 1) = l.take i ++ [l[i]] := by rw [List.take_succ_eq_append_getElem hil]
  have hm : (l.take (i + 1)).map intT = (l.take i).map intT ++ [intT l[i]] := by rw [ht, List.map_append]; rfl
  have hlen : ((l.take i).map intT).length ≤ 1000000 := by rw [List.length_map, List.length_take]; omega
  obtain ⟨x', s', a1', a2', a3'⟩ := ap.push hlen (intT l[i])
  have tf := tm.fa 7
  have tl := tm.ld
  have h7 : s' 7 = st 7 := a3' 7 (by decide)
  have tm7 : TupM (s' 7) ((l.take i).map intT) x := by rw [h7]; exact tm
  obtain ⟨s2, b1, b2, b3⟩ := tm7.store a2' (by simp)
  have f5 := i_add Tryd.prog 3 (i : Int) 1 (by omega) (by omega)
  have tf' := tm7.fa 7
  simp only [zaa, zab, zac, zad, zae, zaf, zag, zah, zai, zaj, zak, zal, zam, zan, zao, zap, zaq, zar, zas, zat, zau, zav, zaw, zax, zay, zaz, zba, zbb, zbc, zbd, zbe, zbf, zbg, zbh, zbi, zbj, zbk, zbl, zbm, zbn, keep2, zbp, zbq, Nat.reduceBEq, Bool.or_self, Bool.or_false, Bool.or_true, Bool.and_true, Bool.and_false, Bool.true_and, Bool.false_and, Option.isNone_none, Option.isNone_some, Option.isSome_some, Option.isSome_none, zbr, zbs, zbt, zbu, zbv, zbw, zbx, zby, zbz, zca, zcb, zcc, zcd, zce, zcf, zcg, zch, zci, zcj, zck, zcl, zcm, zcn, zco, zcp, zcq, zcr, own2, String.reduceAppend, String.reduceBEq, Bool.or_false, Bool.or_true, Bool.or_self, zcs, zct, zcu, zcv, zcw, zcx, zcy, zcz, zda, zdb, zdc, zdd, zde, zdf, zdg, zdh, zdi, zdj, zdk, zdl, zdm, zdn, zdo, zdp, zdq, zdr, zds, zdt, zdu, Option.getD_some, Option.getD_none, zfb, zfc, zfd, zfe, zff, zfg, zfh, zfi, Option.map_some, Option.map_none, Option.bind_some, List.map_cons, List.map_nil, List.cons_append, List.nil_append, ↓reduceIte, Nat.reduceEqDiff, Nat.reduceAdd, decide_true, decide_false, Bool.true_eq_false, Bool.false_eq_true, zdv, zdw, zdx, zdy, zdz, zea, zeb, zec, ia22, ld31, zed, zee, zef, zeg, zeh, zei, zej, zek, zel, zem, zen, zeo, zep, zeq, zer, fa_0, fa_1, zes, bd_0, bd_2, zet, fd_1, zeu, Nat.zero_add, e0, e1, e2, e7, e8, il, q1, faT_4, Nat.reduceAdd, tf, tl, ii, ldi, c1, one26_c, one26_KT, a1', tf', b1, f5]
  refine ih (i + 1) _ _ (by omega) rfl ⟨(by first | (simp only [zfi, ↓reduceIte, Nat.reduceEqDiff, e0]; done) | (simp only [zfi, ↓reduceIte, Nat.reduceEqDiff, e0]; rfl)), (by first | (simp only [zfi, ↓reduceIte, Nat.reduceEqDiff, e1]; done) | (simp only [zfi, ↓reduceIte, Nat.reduceEqDiff, e1]; rfl)), (by first | (simp only [zfi, ↓reduceIte, Nat.reduceEqDiff, e2]; done) | (simp only [zfi, ↓reduceIte, Nat.reduceEqDiff, e2]; rfl)), (by first | (simp only [zfi, ↓reduceIte, Nat.reduceEqDiff, e7]; done) | (simp only [zfi, ↓reduceIte, Nat.reduceEqDiff, e7]; rfl)), (by first | (simp only [zfi, ↓reduceIte, Nat.reduceEqDiff]; done) | (simp only [zfi, ↓reduceIte, Nat.reduceEqDiff]; rfl)), by omega, ⟨x', ?_, ?_⟩, fun q q7 q37 => ?_⟩
  · rw [hm]
    rcases a2' with ⟨g1, _⟩ | ⟨g1, tt, g2, g3⟩
    · exact absurd g1 (by simp)
    · exact .inr ⟨g1, tt, g2, by rw [b2 37 (by decide)]; exact g3⟩
  · rw [hm]; exact b3
  · rw [b2 q q7, a3' q q37]; exact hz q q7 q37
end Go.Ab

/- The walk of BifTuples (CFG2): it gives true, and leaves memory below as it was. No conditions. -/
namespace Go.Ab
open Go.Proofs Go.RowKit
theorem prim2_ok : FnOk Tryd.prog prim2 := fun f xs r os h => by
  unfold prim2 at h
  split at h
  · cases h
  · exact evalFn_ok mixed prim0_ok 9223372036854775808 6190 f xs r os h
theorem rowJ_I64 {w : World} {a : Option Addr} {len cap : Nat} {zs : List Int} (h : IsRow .i64 w a len cap zs) : (zs.take len).length = len ∧ ∀ x ∈ zs.take len, I64 x := by
  have hw : ∀ n ∈ zs, (Lit.int .i64 n).wf = true := by
    rcases h with ⟨_, _, _, rfl⟩ | ⟨_, _, _, _, _, _, h⟩
    · intro n hn; cases hn
    · exact h
  refine ⟨?_, fun x hx => ?_⟩
  · rcases h with ⟨_, rfl, _, rfl⟩ | ⟨_, _, hl, _, hz, _⟩
    · rfl
    · rw [List.length_take]; omega
  · have := hw x (List.mem_of_mem_take hx)
    simp only [Lit.wf, IntKind.min, IntKind.max, IntKind.bits, IntKind.signed] at this
    unfold I64
    simp at this
    omega
theorem walkBTuples (a0 : Option Addr) (len0 cap0 : Nat) (z0 : List Int) (at1 v : Int) (w : World) (h0 : IsRow .i64 w a0 len0 cap0 z0) (_h1 : (Lit.int .i64 at1).wf = true) (h2 : (Lit.int .i64 v).wf = true) :
    Calls Tryd.prog 4 #[.slice a0 len0 cap0, .int .i64 at1, .int .i64 v] w fun e w' => e = .returned (.bool true) ∧ Below w.heap.size w w' := by
  obtain ⟨l0, i0⟩ := rowJ_I64 h0
  have hv : I64 v := by
    simp only [Lit.wf, IntKind.min, IntKind.max, IntKind.bits, IntKind.signed] at h2
    unfold I64
    simp at h2
    omega
  have t := tuples_B 100 (Nat.le_refl _) (z0.take len0) at1 v i0 hv
  rw [l0] at t
  refine lawCallsP (cfg := cfg2) mixed prim2_ok (vs := [.slice a0 len0 cap0, .int .i64 at1, .int .i64 v]) t rfl (st0_3J _ _ _) (fun j v hj => ?_) true rfl
  match j, hj with
  | 0, hj => cases hj; exact ⟨V0_row h0, rfl⟩
  | 1, hj => cases hj; exact ⟨by simp only [env0, List.getElem?_cons_succ, List.getElem?_cons_zero, V0], rfl⟩
  | 2, hj => cases hj; exact ⟨by simp only [env0, List.getElem?_cons_succ, List.getElem?_cons_zero, V0], rfl⟩
end Go.Ab
