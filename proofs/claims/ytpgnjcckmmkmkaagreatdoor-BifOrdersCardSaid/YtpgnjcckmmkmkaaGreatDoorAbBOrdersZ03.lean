/- Several texts put together: AbzL4, AbM3, AbzL5, AbzL6, AbM4, AbzL7, AbM5, AbzL8, AbM6, AbzL9, AbM7, AbzL10, AbM8, AbzLg, AbMn1, AbzA1, AbFe. Conditions: as each part says. -/
import Derived.Test.YtpgnjcckmmkmkaaGreatDoorAbBOrdersZ02
import Derived.LoopNIn
import Derived.TacticsIn
import Derived.OwnWalkIn
import Derived.RangeFuncFrom
import Derived.RangeFuncLeaves
/- What the program's Cmp, Len compute. Conditions: limbs in range, not too many. -/
namespace Go.Ab
open Go.Proofs
set_option maxRecDepth 100000
set_option linter.unusedSimpArgs false

theorem at_call (n d : Nat) (b : Gk) (l : List Nat) (hl : Limbs l) (k : Nat) (D : Nat) (s : St) : callA cfg0 (evalFn Tryz.prog cfg0 n (d+1)) D s 130 [encL b l, .int .i64 (k : Int)] = some (.int .u64 ((l.getD k 0 : Nat) : Int), s) :=
  callA_Li _ _ _ _ _ _ _ _ _ (at_eq n d b l hl k (by omega))
theorem compare_call (n d : Nat) (x y : Nat) (D : Nat) (s : St) : callA cfg0 (evalFn Tryz.prog cfg0 n (d+2)) D s 129 [.int .u64 (x : Int), .int .u64 (y : Int)] = some (.int .i64 (cmpZ x y), s) :=
  callA_int2 _ _ _ _ _ _ _ _ _ (compare_eq n d x y)
theorem max_eq (a b : Nat) : foldA max2A (.int .i64 (a : Int)) [.int .i64 (b : Int)] = some (.int .i64 ((max a b : Nat) : Int)) := by
  simp only [foldA, max2A, Option.bind_some]
  congr 2
  rcases Nat.le_total a b with h | h
  · rw [Nat.max_eq_right h]
    split <;> omega
  · rw [Nat.max_eq_left h]
    split <;> omega

theorem cmp_eq (n d : Nat) (b b' : Gk) (l m : List Nat) (hl : Limbs l) (hm : Limbs m) (hn : l.length < n) (hn' : m.length < n) (hll : l.length ≤ 1000000) (hml : m.length ≤ 1000000) :
    evalFn Tryz.prog cfg0 n (d+3) 100 [.tree (encL b l), .tree (encL b' m)] = some (.tree (.int .i64 (cmpZ (val l) (val m))), [[], []]) := by
  rw [evalFn_go _ Tryz.func100 (by unfold Tryz.f100; rfl) (by unfold Tryz.f100; decide) (Nat.le_of_ble_eq_true (by unfold Tryz.f100; rfl)) (by kernel_rfl)]
  have e0 := i_sub Tryz.prog 3 ((max l.length m.length : Nat) : Int) 1 (by omega) (by omega)
  simp only [zaa, zab, zac, zad, zae, zaf, zag, zah, zai, zaj, zak, zal, zam, zan, zao, zap, zaq, zar, zas, zat, zau, zav, zaw, zax, zay, zaz, zba, zbb, zbc, zbd, zbe, zbf, zbg, zbh, zbi, zbj, zbk, zbl, zbm, zbn, zbo, zbp, zbq, Nat.reduceBEq, Bool.or_self, Bool.or_false, Bool.or_true, Bool.and_true, Bool.and_false, Bool.true_and, Bool.false_and, Option.isNone_none, Option.isNone_some, Option.isSome_some, Option.isSome_none, zbr, zbs, zbt, zbu, zbv, zbw, zbx, zby, zbz, zca, zcb, zcc, zcd, zce, zcf, zcg, zch, zci, zcj, zck, zcl, zcm, zcn, zco, zcp, zcq, zcr, zcs, zct, zcu, zcv, zcw, zcx, zcy, zcz, zda, zdb, zdc, zdd, zde, zdf, zdg, zdh, zdi, zdj, zdk, zdl, zdm, zdn, zdo, zdp, zdq, zdr, zds, Option.getD_some, Option.getD_none, zfg, zfh, zfi, zfj, zfk, zfl, zfm, zfn, Option.map_some, Option.map_none, Option.bind_some, List.map_cons, List.map_nil, List.cons_append, List.nil_append, ↓reduceIte, Nat.reduceEqDiff, Nat.reduceAdd, decide_true, decide_false, Bool.true_eq_false, Bool.false_eq_true, env0, List.getElem?_cons_zero, List.getElem?_cons_succ, zdt, zdu, zdv, zdw, zdx, zdy, zdz, zea, ia22, ld31, zeb, zec, st0_2, max_eq, e0, den_loop]
  refine loop_ends (X := Nat) (fun k env s => env 0 = encL b l ∧ env 1 = encL b' m ∧ env 5 = .int .i64 ((k : Int) - 1) ∧ s = dead ∧ k ≤ max l.length m.length ∧ Alike l m k) id (fun _ => (.tree (.int .i64 (cmpZ (val l) (val m))), [[], []])) ?_ n (max l.length m.length) _ _ (by simp only [id]; omega) ⟨rfl, rfl, rfl, rfl, Nat.le_refl _, alike_top _ _ _ (by omega) (by omega)⟩
  intro k x hx ih env s ⟨h0, h1, h5, hs, hk, hv⟩
  subst hs
  by_cases hp : x = 0
  · subst hp
    have q1 : ¬ (((0 : Nat) : Int) - 1 ≥ 0) := by omega
    simp only [zaa, zab, zac, zad, zae, zaf, zag, zah, zai, zaj, zak, zal, zam, zan, zao, zap, zaq, zar, zas, zat, zau, zav, zaw, zax, zay, zaz, zba, zbb, zbc, zbd, zbe, zbf, zbg, zbh, zbi, zbj, zbk, zbl, zbm, zbn, zbo, zbp, zbq, Nat.reduceBEq, Bool.or_self, Bool.or_false, Bool.or_true, Bool.and_true, Bool.and_false, Bool.true_and, Bool.false_and, Option.isNone_none, Option.isNone_some, Option.isSome_some, Option.isSome_none, zbr, zbs, zbt, zbu, zbv, zbw, zbx, zby, zbz, zca, zcb, zcc, zcd, zce, zcf, zcg, zch, zci, zcj, zck, zcl, zcm, zcn, zco, zcp, zcq, zcr, zcs, zct, zcu, zcv, zcw, zcx, zcy, zcz, zda, zdb, zdc, zdd, zde, zdf, zdg, zdh, zdi, zdj, zdk, zdl, zdm, zdn, zdo, zdp, zdq, zdr, zds, Option.getD_some, Option.getD_none, zfg, zfh, zfi, zfj, zfk, zfl, zfm, zfn, Option.map_some, Option.map_none, Option.bind_some, List.map_cons, List.map_nil, List.cons_append, List.nil_append, ↓reduceIte, Nat.reduceEqDiff, Nat.reduceAdd, decide_true, decide_false, Bool.true_eq_false, Bool.false_eq_true, zdt, zdu, zdv, zdw, zdx, zdy, zdz, zea, ia22, ld31, zeb, zec, h0, h1, h5, q1]
    rw [alike_0 _ _ hv, cmpZ_self]
    exact finish_tree _ _ _ _ _ _ (.int .i64 0) _ _ (by simp only [zfn, ↓reduceIte]) rfl rfl
  · obtain ⟨y, rfl⟩ : ∃ y, x = y + 1 := ⟨x - 1, by omega⟩
    have p2 : ((y + 1 : Nat) : Int) - 1 = (y : Int) := by omega
    rw [p2] at h5
    have p6 : (y : Int) ≥ 0 := by omega
    have e1 := i_sub Tryz.prog 3 (y : Int) 1 (by omega) (by omega)
    have c1 := at_call n (d + 1) b l hl y
    have c2 := at_call n (d + 1) b' m hm y
    have c3 := compare_call n d (l.getD y 0) (m.getD y 0)
    by_cases hz : l.getD y 0 = m.getD y 0
    · have p5 : (cmpZ (l.getD y 0) (m.getD y 0) != 0) = false := by rw [hz, cmpZ_self]; rfl
      simp only [zaa, zab, zac, zad, zae, zaf, zag, zah, zai, zaj, zak, zal, zam, zan, zao, zap, zaq, zar, zas, zat, zau, zav, zaw, zax, zay, zaz, zba, zbb, zbc, zbd, zbe, zbf, zbg, zbh, zbi, zbj, zbk, zbl, zbm, zbn, zbo, zbp, zbq, Nat.reduceBEq, Bool.or_self, Bool.or_false, Bool.or_true, Bool.and_true, Bool.and_false, Bool.true_and, Bool.false_and, Option.isNone_none, Option.isNone_some, Option.isSome_some, Option.isSome_none, zbr, zbs, zbt, zbu, zbv, zbw, zbx, zby, zbz, zca, zcb, zcc, zcd, zce, zcf, zcg, zch, zci, zcj, zck, zcl, zcm, zcn, zco, zcp, zcq, zcr, zcs, zct, zcu, zcv, zcw, zcx, zcy, zcz, zda, zdb, zdc, zdd, zde, zdf, zdg, zdh, zdi, zdj, zdk, zdl, zdm, zdn, zdo, zdp, zdq, zdr, zds, Option.getD_some, Option.getD_none, zfg, zfh, zfi, zfj, zfk, zfl, zfm, zfn, Option.map_some, Option.map_none, Option.bind_some, List.map_cons, List.map_nil, List.cons_append, List.nil_append, ↓reduceIte, Nat.reduceEqDiff, Nat.reduceAdd, decide_true, decide_false, Bool.true_eq_false, Bool.false_eq_true, zdt, zdu, zdv, zdw, zdx, zdy, zdz, zea, ia22, ld31, zeb, zec, h0, h1, h5, p6, c1, c2, c3, e1, p5]
      refine ih y _ _ (Nat.lt_succ_self _) rfl ⟨?_, ?_, ?_, rfl, by omega, alike_down _ _ _ hv hz⟩
      · simp only [zfn, ↓reduceIte, Nat.reduceEqDiff, h0]
      · simp only [zfn, ↓reduceIte, Nat.reduceEqDiff, h1]
      · simp only [zfn, ↓reduceIte, Nat.reduceEqDiff]
    · have p5 : (cmpZ (l.getD y 0) (m.getD y 0) != 0) = true := by rw [bne_iff_ne]; intro h; exact hz ((cmpZ_eq0 _ _).mp h)
      simp only [zaa, zab, zac, zad, zae, zaf, zag, zah, zai, zaj, zak, zal, zam, zan, zao, zap, zaq, zar, zas, zat, zau, zav, zaw, zax, zay, zaz, zba, zbb, zbc, zbd, zbe, zbf, zbg, zbh, zbi, zbj, zbk, zbl, zbm, zbn, zbo, zbp, zbq, Nat.reduceBEq, Bool.or_self, Bool.or_false, Bool.or_true, Bool.and_true, Bool.and_false, Bool.true_and, Bool.false_and, Option.isNone_none, Option.isNone_some, Option.isSome_some, Option.isSome_none, zbr, zbs, zbt, zbu, zbv, zbw, zbx, zby, zbz, zca, zcb, zcc, zcd, zce, zcf, zcg, zch, zci, zcj, zck, zcl, zcm, zcn, zco, zcp, zcq, zcr, zcs, zct, zcu, zcv, zcw, zcx, zcy, zcz, zda, zdb, zdc, zdd, zde, zdf, zdg, zdh, zdi, zdj, zdk, zdl, zdm, zdn, zdo, zdp, zdq, zdr, zds, Option.getD_some, Option.getD_none, zfg, zfh, zfi, zfj, zfk, zfl, zfm, zfn, Option.map_some, Option.map_none, Option.bind_some, List.map_cons, List.map_nil, List.cons_append, List.nil_append, ↓reduceIte, Nat.reduceEqDiff, Nat.reduceAdd, decide_true, decide_false, Bool.true_eq_false, Bool.false_eq_true, zdt, zdu, zdv, zdw, zdx, zdy, zdz, zea, ia22, ld31, zeb, zec, h0, h1, h5, p6, c1, c2, c3, e1, p5]
      rw [alike_ne _ _ hl hm _ hv hz]
      exact finish_tree _ _ _ _ _ _ (.int .i64 (cmpZ (l.getD y 0) (m.getD y 0))) _ _ (by simp only [zfn, ↓reduceIte, Nat.reduceEqDiff]) rfl rfl
end Go.Ab

/- Sums and differences limb by limb: plain arithmetic. -/
namespace Go.Ab
end Go.Ab

/- What the program's Add, Sub compute. Conditions: limbs in range, not too many. -/
namespace Go.Ab
open Go.Proofs
set_option maxRecDepth 100000
set_option linter.unusedSimpArgs false

end Go.Ab

/- What the program's Sub computes. Conditions: limbs in range, not too many. -/
namespace Go.Ab
open Go.Proofs
set_option maxRecDepth 100000
set_option linter.unusedSimpArgs false

end Go.Ab

/- How many bits a number has: plain arithmetic. -/
namespace Go.Ab
end Go.Ab

/- What the program's Len computes. Conditions: limbs in range, not too many. -/
namespace Go.Ab
open Go.Proofs
set_option maxRecDepth 100000
set_option linter.unusedSimpArgs false

theorem tk9 : tkOf Tryz.prog 9 = .str := by kernel_rfl
theorem zet (env : Env) (b : ByteArray) : ev env (.const (.string b)) = .str b.data.toList := rfl

end Go.Ab

/- Shifts by limbs: plain arithmetic. -/
namespace Go.Ab
end Go.Ab

/- What the program's Shl, Shr compute. Conditions: limbs in range, not too many. -/
namespace Go.Ab
open Go.Proofs
set_option maxRecDepth 100000
set_option linter.unusedSimpArgs false

end Go.Ab

/- Products limb by limb: plain arithmetic. -/
namespace Go.Ab
theorem getD_set_ne (o : List Nat) (i j v : Nat) (h : i ≠ j) : (o.set i v).getD j 0 = o.getD j 0 := by
  rw [List.getD_eq_getElem?_getD, List.getD_eq_getElem?_getD, List.getElem?_set_ne h]
end Go.Ab

/- What the program's Mul computes. Conditions: limbs in range, not too many. -/
namespace Go.Ab
open Go.Proofs
set_option maxRecDepth 100000
set_option linter.unusedSimpArgs false

end Go.Ab

/- Quotients bit by bit: plain arithmetic. -/
namespace Go.Ab
end Go.Ab

/- The calls of the program's number functions, upon any value that shows a number. Conditions: at most 1000 limbs. -/
namespace Go.Ab
open Go.Proofs
set_option maxRecDepth 100000
set_option linter.unusedSimpArgs false

/-- A value that shows a list of limbs, whatever room is behind it. -/
def Sh (w : AV) (l : List Nat) : Prop := ∃ g, w = .sl (encC l) l.length g
theorem sh_L (b : Gk) (l : List Nat) : Sh (encL b l) l := ⟨_, rfl⟩
theorem Sh.arg {w : AV} {l : List Nat} (h : Sh w l) (f : FuncId) (s : St) (j : Nat) : ∃ b, argA cfg0 f s j w = some (.tree (encL b l)) := by
  obtain ⟨g, rfl⟩ := h
  cases g with
  | tight => exact ⟨.t, rfl⟩
  | loose => exact ⟨.l, rfl⟩
  | nil => exact ⟨.n, rfl⟩
  | tok p t => exact ⟨.l, rfl⟩
theorem Sh.gives {w : AV} {l : List Nat} (h : Sh w l) (v : AV) : givesOf w (.tree v) = none := by
  obtain ⟨g, rfl⟩ := h
  cases g <;> rfl
theorem Sh.lends {w : AV} {l : List Nat} (h : Sh w l) (v : AV) : lendsOf w (.tree v) = none := by
  obtain ⟨g, rfl⟩ := h
  cases g <;> rfl
theorem callA_S2 (call : FuncId → List Arg → Option Out) (d : Nat) (s : St) (f : FuncId) {w w' : AV} {l l' : List Nat} (h : Sh w l) (h' : Sh w' l') (v : AV) (hc : ∀ b b', call f [.tree (encL b l), .tree (encL b' l')] = some (.tree v, [[], []])) : callA cfg0 call d s f [w, w'] = some (v, s) := by
  obtain ⟨b, e⟩ := h.arg f s 0
  obtain ⟨b', e'⟩ := h'.arg f s 1
  simp [callA, argsA, e, e', givesL, lendsL, h.gives, h.lends, h'.gives, h'.lends, hc, backA, resA]
/-- A value that shows the number v: of at most 1000 limbs. -/
def Num (w : AV) (v : Nat) : Prop := ∃ l, Sh w l ∧ Limbs l ∧ l.length ≤ 1000 ∧ val l = v
theorem Num.lt {w : AV} {v : Nat} (h : Num w v) : ∃ k, k ≤ 1000 ∧ v < B ^ k := by
  obtain ⟨l, hs, hl, hn, rfl⟩ := h
  exact ⟨l.length, hn, val_lt l hl⟩
section
variable (n d : Nat) (hn : 100000 ≤ n) (D : Nat) (s : St)
include hn
theorem cCmp {w w' : AV} {v v' : Nat} (h : Num w v) (h' : Num w' v') : callA cfg0 (evalFn Tryz.prog cfg0 n (d+3)) D s 100 [w, w'] = some (.int .i64 (cmpZ v v'), s) := by
  obtain ⟨l, hs, hl, hk, rfl⟩ := h
  obtain ⟨l', hs', hl', hk', rfl⟩ := h'
  exact callA_S2 _ D s 100 hs hs' _ fun b b' => cmp_eq n d b b' l l' hl hl' (by omega) (by omega) (by omega) (by omega)
end
end Go.Ab

/- More plain arithmetic of the limb statements. -/
namespace Go.Ab
/-- Any number as one from 0 to n - 1. -/
def placeN (v n : Int) : Int := if v.tmod n < 0 then v.tmod n + n else v.tmod n
theorem place_range (v n : Int) (hn : 0 < n) : 0 ≤ placeN v n ∧ placeN v n < n := by
  have h1 := Int.tmod_lt_of_pos v hn
  have h2 : -n < v.tmod n := by
    have := Int.lt_tmod_of_pos v hn
    omega
  unfold placeN
  split <;> omega
end Go.Ab

/- Helpers of all statements: calls, places, copies, sameness. Conditions: limbs in range. -/
namespace Go.Ab
open Go.Proofs
set_option maxRecDepth 100000
set_option linter.unusedSimpArgs false

section
variable {P : Program} {cfg : Cfg} {call : FuncId → List Arg → Option Out}
/-- A call of a function that a variable holds. -/
def callV (cfg : Cfg) (call : FuncId → List Arg → Option Out) (d : Nat) (s : St) (vs : List AV) : AV → Option (AV × St)
  | .fn f caps => callA cfg call d s f (vs ++ caps)
  | _ => none
@[congr] theorem callV_congr {d : Nat} {s s' : St} {vs vs' : List AV} {v v' : AV} (h : v = v') (h1 : s = s') (h2 : vs = vs') : callV cfg call d s vs v = callV cfg call d s' vs' v' := by rw [h, h1, h2]
theorem zfa (d : Nat) (s : St) (vs : List AV) (f : FuncId) : callV cfg call d s vs (.fn f []) = callA cfg call d s f (vs ++ []) := rfl
theorem zez (x : Tmp) (xs : Array Operand) (us : Array TypeId) {d : Option Tmp} {ty : TypeId} {pos : String} {af : Array Edge} {g : Option (Nat × Bool)} {t : Nat} {env : Env} {s : St} :
    opA P cfg call false ⟨d, .call ⟨.value (.tmp x), xs, us⟩, ty, pos, af, g⟩ t env s = callV cfg call t s (xs.toList.map (ev env)) (env x) := by
  simp only [opA, ev]
  cases env x <;> rfl
theorem zfb (q : Bool) (all : Array Oper) (o : Oper) (l m : List Oper) (K : Kont) (env : Env) (s : St) : ops1 P cfg call q all (List.append (o :: l) m) K env s = ops1 P cfg call q all (o :: List.append l m) K env s := rfl
theorem zfc (q : Bool) (all : Array Oper) (m : List Oper) (K : Kont) (env : Env) (s : St) : ops1 P cfg call q all (List.append [] m) K env s = ops1 P cfg call q all m K env s := rfl
theorem zfd (o : Oper) (l m : List Oper) (j : Nat) (env : Env) : guardD ⟨List.append (o :: l) m⟩ (j + 1) env = guardD ⟨List.append l m⟩ j env := zce _ _ _ _
theorem zfe (d : Nat) (op : Op) (ty : TypeId) (pos : String) (af : Array Edge) (g : Option (Nat × Bool)) (l m : List Oper) (env : Env) : guardD ⟨List.append (⟨some d, op, ty, pos, af, g⟩ :: l) m⟩ 0 env = env d := rfl
theorem zff (m : List Oper) (j : Nat) (env : Env) : guardD ⟨List.append [] m⟩ j env = guardD ⟨m⟩ j env := rfl
theorem backA_trees (s : St) : ∀ vs : List AV, backA s vs (vs.map Arg.tree) (vs.map fun _ => []) = some s
  | [] => rfl
  | v :: vs => by simp only [List.map_cons, backA, gives_tree, backA_trees s vs]
theorem callA_trees {d : Nat} {s : St} {f : FuncId} {vs : List AV} {v : AV} (ht : vs.all isTree = true) (hc : call f (vs.map Arg.tree) = some (.tree v, vs.map fun _ => [])) : callA cfg call d s f vs = some (v, s) := by
  simp only [callA, argsA_trees f s vs 0 ht, Option.bind_some, givesL_trees, lendsL_trees vs ht, List.nodup_nil, List.not_mem_nil, false_implies, implies_true, and_self, if_true, hc, List.foldl_nil, ite_self, backA_trees, resA]
theorem callQ_trees {f : FuncId} {vs : List AV} {v : AV} (ht : vs.all isTree = true) (hc : call f (vs.map Arg.tree) = some (.tree v, vs.map fun _ => [])) : callQ call f vs = some v := by
  simp only [callQ, ht, if_true, hc, Option.bind_some]
end
theorem i_remZ (P : Program) (t : TypeId) (a b : Int) (hb : b ≠ 0) : binA P .rem t (.int .i64 a) (.int .i64 b) = some (.int .i64 (a.tmod b)) := by
  simp only [binA, intA, if_true]
  rw [if_neg hb]
theorem place_eq (n d : Nat) (v m : Int) (hm : 0 < m) (hm' : m ≤ 1000000) : evalFn Tryz.prog cfg0 n (d+1) 15 [.tree (.int .i64 v), .tree (.int .i64 m)] = some (.tree (.int .i64 (placeN v m)), [[], []]) := by
  rw [evalFn_go _ Tryz.func15 (by unfold Tryz.f15; rfl) (by unfold Tryz.f15; decide) (Nat.le_of_ble_eq_true (by unfold Tryz.f15; rfl)) (by kernel_rfl)]
  have hr := place_range v m hm
  have e1 := i_remZ Tryz.prog 3 v m (by omega)
  have h1 := Int.tmod_lt_of_pos v hm
  unfold placeN at *
  by_cases h : v.tmod m < 0
  · rw [if_pos h] at hr ⊢
    have e2 := i_add Tryz.prog 3 (v.tmod m) m (by omega) (by omega)
    simp only [zaa, zab, zac, zad, zae, zaf, zag, zah, zai, zaj, zak, zal, zam, zan, zao, zap, zaq, zar, zas, zat, zau, zav, zaw, zax, zay, zaz, zba, zbb, zbc, zbd, zbe, zbf, zbg, zbh, zbi, zbj, zbk, zbl, zbm, zbn, zbo, zbp, zbq, Nat.reduceBEq, Bool.or_self, Bool.or_false, Bool.or_true, Bool.and_true, Bool.and_false, Bool.true_and, Bool.false_and, Option.isNone_none, Option.isNone_some, Option.isSome_some, Option.isSome_none, zbr, zbs, zbt, zbu, zbv, zbw, zbx, zby, zbz, zca, zcb, zcc, zcd, zce, zcf, zcg, zch, zci, zcj, zck, zcl, zcm, zcn, zco, zcp, zcq, zcr, zcs, zct, zcu, zcv, zcw, zcx, zcy, zcz, zda, zdb, zdc, zdd, zde, zdf, zdg, zdh, zdi, zdj, zdk, zdl, zdm, zdn, zdo, zdp, zdq, zdr, zds, Option.getD_some, Option.getD_none, zfg, zfh, zfi, zfj, zfk, zfl, zfm, zfn, Option.map_some, Option.map_none, Option.bind_some, List.map_cons, List.map_nil, List.cons_append, List.nil_append, ↓reduceIte, Nat.reduceEqDiff, Nat.reduceAdd, decide_true, decide_false, Bool.true_eq_false, Bool.false_eq_true, env0, List.getElem?_cons_zero, List.getElem?_cons_succ, zdv, e1, h, e2]
    exact finish_tree _ _ _ _ _ _ (.int .i64 (v.tmod m + m)) _ _ (by simp only [zfn, ↓reduceIte]) rfl rfl
  · rw [if_neg h] at hr ⊢
    simp only [zaa, zab, zac, zad, zae, zaf, zag, zah, zai, zaj, zak, zal, zam, zan, zao, zap, zaq, zar, zas, zat, zau, zav, zaw, zax, zay, zaz, zba, zbb, zbc, zbd, zbe, zbf, zbg, zbh, zbi, zbj, zbk, zbl, zbm, zbn, zbo, zbp, zbq, Nat.reduceBEq, Bool.or_self, Bool.or_false, Bool.or_true, Bool.and_true, Bool.and_false, Bool.true_and, Bool.false_and, Option.isNone_none, Option.isNone_some, Option.isSome_some, Option.isSome_none, zbr, zbs, zbt, zbu, zbv, zbw, zbx, zby, zbz, zca, zcb, zcc, zcd, zce, zcf, zcg, zch, zci, zcj, zck, zcl, zcm, zcn, zco, zcp, zcq, zcr, zcs, zct, zcu, zcv, zcw, zcx, zcy, zcz, zda, zdb, zdc, zdd, zde, zdf, zdg, zdh, zdi, zdj, zdk, zdl, zdm, zdn, zdo, zdp, zdq, zdr, zds, Option.getD_some, Option.getD_none, zfg, zfh, zfi, zfj, zfk, zfl, zfm, zfn, Option.map_some, Option.map_none, Option.bind_some, List.map_cons, List.map_nil, List.cons_append, List.nil_append, ↓reduceIte, Nat.reduceEqDiff, Nat.reduceAdd, decide_true, decide_false, Bool.true_eq_false, Bool.false_eq_true, env0, List.getElem?_cons_zero, List.getElem?_cons_succ, zdv, e1, h]
    exact finish_tree _ _ _ _ _ _ (.int .i64 (v.tmod m)) _ _ (by simp only [zfn, ↓reduceIte]) rfl rfl
theorem cPlace (n d : Nat) (v m : Int) (hm : 0 < m) (hm' : m ≤ 1000000) (D : Nat) (s : St) : callA cfg0 (evalFn Tryz.prog cfg0 n (d+1)) D s 15 [.int .i64 v, .int .i64 m] = some (.int .i64 (placeN v m), s) :=
  callA_int2 _ _ _ _ _ _ _ _ _ (place_eq n d v m hm hm')

end Go.Ab

/- Numbers with a sign: plain arithmetic. No conditions but those told. -/
namespace Go.Ab
/-- May a number of a sign and limbs be? -/
def chkN (neg : Bool) (l : List Nat) : Bool := decide (l.length ≤ 12) && (decide (l.length = 0) && !neg || decide (0 < l.length) && decide (l.getD (l.length - 1) 0 ≠ 0))
/-- The number that is shown; 0 where none is. -/
def numZ (neg : Bool) (l : List Nat) : Int := if chkN neg l = true then (if neg = true then -((val l : Nat) : Int) else ((val l : Nat) : Int)) else 0
theorem getLast_getD (l : List Nat) (h : 0 < l.length) : l.getLast? = some (l.getD (l.length - 1) 0) := by
  rw [List.getLast?_eq_getElem?, List.getD_eq_getElem?_getD, List.getElem?_eq_getElem (by omega)]; rfl
/-- What may be is its digits. -/
theorem chk_val {neg : Bool} {l : List Nat} (hl : Limbs l) (h : chkN neg l = true) : digs (val l) = l ∧ val l < B ^ 12 ∧ l.length ≤ 12 ∧ (val l = 0 → l = [] ∧ neg = false) := by
  unfold chkN at h
  simp only [Bool.and_eq_true, Bool.or_eq_true, decide_eq_true_eq, Bool.not_eq_true'] at h
  obtain ⟨h12, h⟩ := h
  have hd : digs (val l) = l := by
    refine digs_val l hl fun x hx => ?_
    rcases h with ⟨h0, _⟩ | ⟨h0, h1⟩
    · have : l = [] := List.length_eq_zero_iff.mp h0
      subst this; cases hx
    · rw [getLast_getD l h0] at hx
      cases hx
      exact h1
  refine ⟨hd, Nat.lt_of_lt_of_le (val_lt l hl) (Nat.pow_le_pow_right (by decide) h12), h12, fun h0 => ?_⟩
  rw [h0, digs_0] at hd
  subst hd
  rcases h with ⟨_, h1⟩ | ⟨h1, _⟩
  · exact ⟨rfl, h1⟩
  · simp at h1
theorem numZ_not {neg : Bool} {l : List Nat} (h : chkN neg l = false) : numZ neg l = 0 := by simp [numZ, h]
theorem numZ_is {neg : Bool} {l : List Nat} (hl : Limbs l) (h : chkN neg l = true) : (numZ neg l).natAbs = val l ∧ decide (numZ neg l < 0) = neg ∧ digs (numZ neg l).natAbs = l := by
  obtain ⟨hd, _, _, h0⟩ := chk_val hl h
  have e : numZ neg l = if neg = true then -((val l : Nat) : Int) else ((val l : Nat) : Int) := if_pos h
  cases neg with
  | false =>
    simp only [Bool.false_eq_true, if_false] at e
    have : (numZ false l).natAbs = val l := by rw [e]; simp
    refine ⟨this, ?_, by rw [this]; exact hd⟩
    rw [e, decide_eq_false_iff_not]; omega
  | true =>
    simp only [if_true] at e
    have hn : val l ≠ 0 := fun h => by have := (h0 h).2; simp at this
    have : (numZ true l).natAbs = val l := by rw [e]; omega
    refine ⟨this, ?_, by rw [this]; exact hd⟩
    rw [e, decide_eq_true_eq]; omega
theorem numZ_lt (neg : Bool) (l : List Nat) (hl : Limbs l) : (numZ neg l).natAbs < B ^ 12 := by
  cases h : chkN neg l with
  | false => rw [numZ_not h]; exact Nat.pow_pos (by decide)
  | true => rw [(numZ_is hl h).1]; exact (chk_val hl h).2.1
/-- The compare of two numbers with signs. -/
def cmpI (a b : Int) : Int := if a < b then -1 else if b < a then 1 else 0
end Go.Ab

/- Numbers with a sign in memory cells; which may be. Conditions: limbs in range. -/
namespace Go.Ab
open Go.Proofs
set_option maxRecDepth 100000
set_option linter.unusedSimpArgs false

abbrev encA (neg : Bool) (g : Gk) (l : List Nat) : AV := .agg [.bool neg, encL g l]
theorem tk24 : tkOf Tryz.prog 27 = .st := by kernel_rfl
theorem zes : zeroOf Tryz.prog 27 = some [.bool false, .sl [] 0 .nil] := by kernel_rfl
theorem sh24 : shOf Tryz.prog 27 = some (true, 2) := by kernel_rfl
theorem sh22 : shOf Tryz.prog 25 = some (false, 1) := by kernel_rfl
theorem sh4 : shOf Tryz.prog 4 = some (false, 1) := by kernel_rfl
theorem esz24 : esz Tryz.prog 27 = some 2 := by kernel_rfl
theorem esz22 : esz Tryz.prog 25 = some 1 := by kernel_rfl
theorem esz4 : esz Tryz.prog 4 = some 1 := by kernel_rfl
theorem pl24 : placesA Tryz.prog 27 = some [(0, 1), (1, 1)] := by kernel_rfl
theorem fd24_0 : fieldOf Tryz.prog 27 0 = some (4, 0) := by kernel_rfl
theorem fd24_1 : fieldOf Tryz.prog 27 1 = some (25, 1) := by kernel_rfl

section
variable {P : Program} {cfg : Cfg} {call : FuncId → List Arg → Option Out} {d : Option Tmp} {ty : TypeId} {pos : String} {af : Array Edge} {g : Option (Nat × Bool)} {t : Nat} {q : Bool} {env : Env} {s : St}
/-- A new block of what is settled. -/
def boxA (d : Nat) (s : St) (v : AV) : Option (AV × St) := (settle s v).bind fun x => (cellsOf x.1).map fun xs => (.ptr d ((x.2 d).t + 1) 0, upd x.2 d ⟨(x.2 d).t + 1, .buf xs⟩)
theorem zed (u : TypeId) (x : Operand) : opA P cfg call q ⟨d, .box u x, ty, pos, af, g⟩ t env s = boxA t s (ev env x) := rfl
theorem zee (u : TypeId) : opA P cfg call q ⟨d, .alloc u, ty, pos, af, g⟩ t env s = (zeroOf P u).map fun z => (.ptr t ((s t).t + 1) 0, upd s t ⟨(s t).t + 1, .buf z⟩) := rfl
theorem zef (u : TypeId) (x : Operand) (i : Nat) : opA P cfg call q ⟨d, .fieldAddr u x i, ty, pos, af, g⟩ t env s = (fieldAddrA P u s (ev env x) i).map (·, s) := rfl
theorem zeg (u : TypeId) (x : Operand) (i : Nat) : opA P cfg call q ⟨d, .field u x i, ty, pos, af, g⟩ t env s = (fieldA P u (ev env x) i).map (·, s) := rfl
/-- A struct put together. -/
def buildA (P : Program) (u : TypeId) (parts : List (Nat × AV)) : Option AV := (zeroOf P u).bind fun z => match tkOf P u with
  | .st => (placesA P u).bind fun pl => (fillA (fun i => pl[i]?) z parts).map .agg
  | .arr _ e => (esz P e).bind fun n => (fillA (fun i => some (i * n, n)) z parts).map .agg
  | _ => none
theorem zeh (u : TypeId) (parts : Array (Nat × Operand)) : opA P cfg call q ⟨d, .build u parts, ty, pos, af, g⟩ t env s = (buildA P u (parts.toList.map fun x => (x.1, ev env x.2))).map (·, s) := by
  simp only [opA, buildA]
  cases zeroOf P u with
  | none => rfl
  | some z =>
    simp only [Option.bind_some]
    cases tkOf P u <;> first | rfl | (simp only [Option.map_bind]; rfl)
end
theorem zei (d : Nat) (s : St) (xs : List AV) : boxA d s (.agg xs) = some (.ptr d ((s d).t + 1) 0, upd s d ⟨(s d).t + 1, .buf xs⟩) := rfl
theorem zej (j : Nat) : (dead j).t = 0 := rfl
/-- What an entry holds, to be read. -/
def cellsE (e : Ent) (k : Nat) : Option (List AV) := match e.c with
  | .buf xs => if e.t = k then some xs else none
  | .frz xs => if e.t = k then some xs else none
  | _ => none
theorem cellsAt_E (s : St) (p k : Nat) : cellsAt s p k = cellsE (s p) k := by
  unfold cellsAt cellsE
  rcases s p with ⟨t', c⟩
  cases c <;> rfl
theorem cellsE_buf (t k : Nat) (xs : List AV) : cellsE ⟨t, .buf xs⟩ k = if t = k then some xs else none := rfl
def ldE (P : Program) (u : TypeId) (e : Ent) (k off : Nat) : Option AV := (cellsE e k).bind fun xs => partA P u xs off
theorem zek (P : Program) (u : TypeId) (s : St) (p k off : Nat) : loadA P u s (.ptr p k off) = ldE P u (s p) k off := by
  simp only [loadA, cellsAt_E, ldE]
theorem zel (t k : Nat) (a b : AV) : ldE Tryz.prog 27 ⟨t, .buf [a, b]⟩ k 0 = if t = k then some (.agg [a, b]) else none := by
  rw [ldE, cellsE_buf]
  by_cases e : t = k
  · simp [e, partA, sh24]
  · simp [e]
theorem zem (t k : Nat) (a b : AV) : ldE Tryz.prog 4 ⟨t, .buf [a, b]⟩ k 0 = if t = k then some a else none := by
  rw [ldE, cellsE_buf]
  by_cases e : t = k
  · simp [e, partA, sh4]
  · simp [e]
theorem zen (t k : Nat) (a b : AV) : ldE Tryz.prog 25 ⟨t, .buf [a, b]⟩ k 1 = if t = k then some b else none := by
  rw [ldE, cellsE_buf]
  by_cases e : t = k
  · simp [e, partA, sh22]
  · simp [e]
/-- A struct of two cells put into an entry. -/
def stE (e : Ent) (p k : Nat) (s : St) (ys : List AV) : Option St :=
  match e with | ⟨t', .buf xs⟩ => if t' = k then (if ys.length ≤ xs.length then some (upd s p ⟨t', .buf (splice xs 0 ys)⟩) else none) else none | _ => none
theorem zeo (s : St) (p k : Nat) (a b : AV) : storeA Tryz.prog 27 s (.ptr p k 0) (.agg [a, b]) = stE (s p) p k s [a, b] := by
  simp only [storeA, settle, Option.bind_some, stE]
  cases h : s p with
  | mk t c => cases c <;> simp [esz24]
theorem zep (t k p : Nat) (s : St) (a b a' b' : AV) : stE ⟨t, .buf [a', b']⟩ p k s [a, b] = if t = k then some (upd s p ⟨t, .buf [a, b]⟩) else none := by
  simp [stE, splice]
/-- A field's address. -/
def faE (e : Ent) (p k off : Nat) : Option AV := if (cellsE e k).isSome = true then some (.ptr p k off) else none
theorem fa_0 (s : St) (p k : Nat) : fieldAddrA Tryz.prog 27 s (.ptr p k 0) 0 = faE (s p) p k 0 := by
  simp only [fieldAddrA, fd24_0, esz4, live, cellsAt_E, faE, Nat.zero_add]
theorem fa_1 (s : St) (p k : Nat) : fieldAddrA Tryz.prog 27 s (.ptr p k 0) 1 = faE (s p) p k 1 := by
  simp only [fieldAddrA, fd24_1, esz22, live, cellsAt_E, faE, Nat.zero_add]
theorem zeq (t p k off : Nat) (xs : List AV) : faE ⟨t, .buf xs⟩ p k off = if t = k then some (.ptr p k off) else none := by
  rw [faE, cellsE_buf]
  by_cases e : t = k <;> simp [e]
theorem bd_0 : buildA Tryz.prog 27 [] = some (encA false .n []) := by
  simp only [buildA, zes, tk24, pl24, Option.bind_some, fillA]; rfl
theorem bd_2 (b : Bool) (g : Gk) (l : List Nat) : buildA Tryz.prog 27 [(0, .bool b), (1, encL g l)] = some (encA b g l) := by
  simp only [buildA, zes, tk24, pl24, Option.bind_some]
  cases g <;> rfl
theorem zer (b : Bool) (v : Nat) : buildA Tryz.prog 27 [(0, .bool b), (1, encR v)] = some (.agg [.bool b, encR v]) := bd_2 _ _ _
theorem fd_1 (a b : AV) : fieldA Tryz.prog 27 (.agg [a, b]) 1 = some b := by
  simp [fieldA, fd24_1, partA, sh22]

/-- A struct in a cell is what is told. -/
theorem finish_c (k : Bool) (xs : List Arg) (a p e : Nat) (x y : AV) (env : Env) (s : St) (os : List (List AV)) (ha : env a = .ptr p e 0) (hs : s p = ⟨e, .buf [x, y]⟩) (ho : outsA s 0 xs = some os) :
    finishP Tryz.prog k xs #[.cell a 27] env s = some (.tree (.agg [x, y]), os) := by
  rw [finishP_c1, ha, zek, hs, zel, if_pos rfl]
  simp only [Option.bind_some, settle, ho, Option.map_some]
theorem unA_not' (b : Bool) : unA .not (.bool b) = some (.bool (!b)) := rfl
theorem neq0 (x : Nat) : ((x : Int) != 0) = decide (x ≠ 0) := by
  rw [Bool.eq_iff_iff]; simp
set_option maxHeartbeats 2000000 in
theorem check_eq (n d : Nat) (neg : Bool) (g : Gk) (l : List Nat) (hl : Limbs l) : evalFn Tryz.prog cfg0 n (d+1) 99 [.tree (encA neg g l)] = some (.tree (.bool (chkN neg l)), [[]]) := by
  rw [evalFn_go _ Tryz.func99 (by unfold Tryz.f99; rfl) (by unfold Tryz.f99; decide) (Nat.le_of_ble_eq_true (by unfold Tryz.f99; rfl)) (by kernel_rfl)]
  unfold chkN
  by_cases h : (l.length : Int) ≤ 12
  rotate_left
  · have e1 : decide (l.length ≤ 12) = false := decide_eq_false (by omega)
    simp only [zaa, zab, zac, zad, zae, zaf, zag, zah, zai, zaj, zak, zal, zam, zan, zao, zap, zaq, zar, zas, zat, zau, zav, zaw, zax, zay, zaz, zba, zbb, zbc, zbd, zbe, zbf, zbg, zbh, zbi, zbj, zbk, zbl, zbm, zbn, zbo, zbp, zbq, Nat.reduceBEq, Bool.or_self, Bool.or_false, Bool.or_true, Bool.and_true, Bool.and_false, Bool.true_and, Bool.false_and, Option.isNone_none, Option.isNone_some, Option.isSome_some, Option.isSome_none, zbr, zbs, zbt, zbu, zbv, zbw, zbx, zby, zbz, zca, zcb, zcc, zcd, zce, zcf, zcg, zch, zci, zcj, zck, zcl, zcm, zcn, zco, zcp, zcq, zcr, zcs, zct, zcu, zcv, zcw, zcx, zcy, zcz, zda, zdb, zdc, zdd, zde, zdf, zdg, zdh, zdi, zdj, zdk, zdl, zdm, zdn, zdo, zdp, zdq, zdr, zds, Option.getD_some, Option.getD_none, zfg, zfh, zfi, zfj, zfk, zfl, zfm, zfn, Option.map_some, Option.map_none, Option.bind_some, List.map_cons, List.map_nil, List.cons_append, List.nil_append, ↓reduceIte, Nat.reduceEqDiff, Nat.reduceAdd, decide_true, decide_false, Bool.true_eq_false, Bool.false_eq_true, env0, List.getElem?_cons_zero, List.getElem?_cons_succ, zdt, zdu, zdv, zdw, zdx, zdy, zdz, zea, ia22, ld31, zeb, zec, zed, zee, zef, zeg, zeh, zei, zej, zek, zel, zem, zen, zeo, zep, fa_0, fa_1, zeq, bd_0, bd_2, zer, fd_1, zes, Nat.zero_add, st0_1, h, e1, Bool.false_and]
    exact finish_tree _ _ _ _ _ _ (.bool false) _ _ (by simp only [zfn, ↓reduceIte]) rfl rfl
  have e1 : decide (l.length ≤ 12) = true := decide_eq_true (by omega)
  by_cases hz : l = []
  · subst hz
    have p1 : (((([] : List Nat).length : Nat) : Int) == 0) = true := rfl
    cases neg with
    | false =>
      simp only [zaa, zab, zac, zad, zae, zaf, zag, zah, zai, zaj, zak, zal, zam, zan, zao, zap, zaq, zar, zas, zat, zau, zav, zaw, zax, zay, zaz, zba, zbb, zbc, zbd, zbe, zbf, zbg, zbh, zbi, zbj, zbk, zbl, zbm, zbn, zbo, zbp, zbq, Nat.reduceBEq, Bool.or_self, Bool.or_false, Bool.or_true, Bool.and_true, Bool.and_false, Bool.true_and, Bool.false_and, Option.isNone_none, Option.isNone_some, Option.isSome_some, Option.isSome_none, zbr, zbs, zbt, zbu, zbv, zbw, zbx, zby, zbz, zca, zcb, zcc, zcd, zce, zcf, zcg, zch, zci, zcj, zck, zcl, zcm, zcn, zco, zcp, zcq, zcr, zcs, zct, zcu, zcv, zcw, zcx, zcy, zcz, zda, zdb, zdc, zdd, zde, zdf, zdg, zdh, zdi, zdj, zdk, zdl, zdm, zdn, zdo, zdp, zdq, zdr, zds, Option.getD_some, Option.getD_none, zfg, zfh, zfi, zfj, zfk, zfl, zfm, zfn, Option.map_some, Option.map_none, Option.bind_some, List.map_cons, List.map_nil, List.cons_append, List.nil_append, ↓reduceIte, Nat.reduceEqDiff, Nat.reduceAdd, decide_true, decide_false, Bool.true_eq_false, Bool.false_eq_true, env0, List.getElem?_cons_zero, List.getElem?_cons_succ, zdt, zdu, zdv, zdw, zdx, zdy, zdz, zea, ia22, ld31, zeb, zec, zed, zee, zef, zeg, zeh, zei, zej, zek, zel, zem, zen, zeo, zep, fa_0, fa_1, zeq, bd_0, bd_2, zer, fd_1, zes, Nat.zero_add, st0_1, h, p1, unA_not', Bool.not_false]
      exact finish_tree _ _ _ _ _ _ (.bool true) _ _ (by simp only [zfn, ↓reduceIte]) rfl rfl
    | true =>
      have p2 : ¬ ((([] : List Nat).length : Nat) : Int) > 0 := by simp
      simp only [zaa, zab, zac, zad, zae, zaf, zag, zah, zai, zaj, zak, zal, zam, zan, zao, zap, zaq, zar, zas, zat, zau, zav, zaw, zax, zay, zaz, zba, zbb, zbc, zbd, zbe, zbf, zbg, zbh, zbi, zbj, zbk, zbl, zbm, zbn, zbo, zbp, zbq, Nat.reduceBEq, Bool.or_self, Bool.or_false, Bool.or_true, Bool.and_true, Bool.and_false, Bool.true_and, Bool.false_and, Option.isNone_none, Option.isNone_some, Option.isSome_some, Option.isSome_none, zbr, zbs, zbt, zbu, zbv, zbw, zbx, zby, zbz, zca, zcb, zcc, zcd, zce, zcf, zcg, zch, zci, zcj, zck, zcl, zcm, zcn, zco, zcp, zcq, zcr, zcs, zct, zcu, zcv, zcw, zcx, zcy, zcz, zda, zdb, zdc, zdd, zde, zdf, zdg, zdh, zdi, zdj, zdk, zdl, zdm, zdn, zdo, zdp, zdq, zdr, zds, Option.getD_some, Option.getD_none, zfg, zfh, zfi, zfj, zfk, zfl, zfm, zfn, Option.map_some, Option.map_none, Option.bind_some, List.map_cons, List.map_nil, List.cons_append, List.nil_append, ↓reduceIte, Nat.reduceEqDiff, Nat.reduceAdd, decide_true, decide_false, Bool.true_eq_false, Bool.false_eq_true, env0, List.getElem?_cons_zero, List.getElem?_cons_succ, zdt, zdu, zdv, zdw, zdx, zdy, zdz, zea, ia22, ld31, zeb, zec, zed, zee, zef, zeg, zeh, zei, zej, zek, zel, zem, zen, zeo, zep, fa_0, fa_1, zeq, bd_0, bd_2, zer, fd_1, zes, Nat.zero_add, st0_1, h, p1, p2, unA_not', Bool.not_true]
      exact finish_tree _ _ _ _ _ _ (.bool false) _ _ (by simp only [zfn, ↓reduceIte]) rfl rfl
  · have hp : 0 < l.length := List.length_pos_iff.mpr hz
    have p1 : ((l.length : Int) == 0) = false := by rw [beq_eq_false_iff_ne]; omega
    have p2 : (l.length : Int) > 0 := by omega
    have p3 := i_sub Tryz.prog 3 (l.length : Int) 1 (by omega) (by omega)
    have p4 : (0 : Int) ≤ (l.length : Int) - 1 := by omega
    have p5 : (l.length : Int) - 1 < l.length := by omega
    have p6 : ((l.length : Int) - 1).toNat = l.length - 1 := by omega
    have p7 : l.length - 1 < l.length := by omega
    have q1 : decide (l.length = 0) = false := decide_eq_false (by omega)
    have q2 : decide (0 < l.length) = true := decide_eq_true hp
    simp only [zaa, zab, zac, zad, zae, zaf, zag, zah, zai, zaj, zak, zal, zam, zan, zao, zap, zaq, zar, zas, zat, zau, zav, zaw, zax, zay, zaz, zba, zbb, zbc, zbd, zbe, zbf, zbg, zbh, zbi, zbj, zbk, zbl, zbm, zbn, zbo, zbp, zbq, Nat.reduceBEq, Bool.or_self, Bool.or_false, Bool.or_true, Bool.and_true, Bool.and_false, Bool.true_and, Bool.false_and, Option.isNone_none, Option.isNone_some, Option.isSome_some, Option.isSome_none, zbr, zbs, zbt, zbu, zbv, zbw, zbx, zby, zbz, zca, zcb, zcc, zcd, zce, zcf, zcg, zch, zci, zcj, zck, zcl, zcm, zcn, zco, zcp, zcq, zcr, zcs, zct, zcu, zcv, zcw, zcx, zcy, zcz, zda, zdb, zdc, zdd, zde, zdf, zdg, zdh, zdi, zdj, zdk, zdl, zdm, zdn, zdo, zdp, zdq, zdr, zds, Option.getD_some, Option.getD_none, zfg, zfh, zfi, zfj, zfk, zfl, zfm, zfn, Option.map_some, Option.map_none, Option.bind_some, List.map_cons, List.map_nil, List.cons_append, List.nil_append, ↓reduceIte, Nat.reduceEqDiff, Nat.reduceAdd, decide_true, decide_false, Bool.true_eq_false, Bool.false_eq_true, env0, List.getElem?_cons_zero, List.getElem?_cons_succ, zdt, zdu, zdv, zdw, zdx, zdy, zdz, zea, ia22, ld31, zeb, zec, zed, zee, zef, zeg, zeh, zei, zej, zek, zel, zem, zen, zeo, zep, fa_0, fa_1, zeq, bd_0, bd_2, zer, fd_1, zes, Nat.zero_add, st0_1, h, p1, p2, p3, p4, p5, p6, p7, e1, q1, q2, neq0, Bool.false_and, Bool.false_or, Bool.true_and]
    exact finish_tree _ _ _ _ _ _ (.bool (decide (l.getD (l.length - 1) 0 ≠ 0))) _ _ (by simp only [zfn, ↓reduceIte]) rfl rfl
end Go.Ab

/- Plain code, walked inside a fence (in a round of a range over a function): where the abstract run answers, the walk goes on. No conditions. -/
namespace Go.Ab
section
variable {P : Program} {cfg : Cfg} {call : FuncId → List Arg → Option Out}

/-- Operations that call nothing. -/
def plainOp : Op → Bool
  | .move _ | .assign _ | .alloc _ | .box .. | .load .. | .store .. | .build .. | .buildSlice .. | .binOp .. | .unOp .. | .indexAddr .. => true
  | .call c => match c.callee with
    | .builtin .len => true
    | _ => false
  | _ => false
def resPlain : Result Next → Prop
  | .ok (.value _) _ => True
  | .ok .skip _ => True
  | .ok _ _ => False
  | .halt _ _ => True
theorem resPlain_val {m : Sem Value} (w : World) : resPlain ((do pure (Next.value (← m)) : Sem Next).run P w) := by
  rw [Sem.run_bind]
  cases m.run P w <;> simp [Result.andThen, resPlain]
theorem plain_res {o : Oper} {ρ : Operand → Value} (h : plainOp o.op = true) (w : World) : resPlain ((execOp ρ o).run P w) := by
  unfold plainOp at h
  split at h
  all_goals try (rename_i hop; simp only [execOp, hop]; first | exact resPlain_val w | (exact trivial) | (rw [Sem.run_pure]; exact trivial))
  · rename_i a b c hop
    simp only [execOp, hop, Sem.run_bind]
    cases (Instr.storeAt a (ρ b) (ρ c)).run P w <;> simp [Result.andThen, resPlain]
  · rename_i c hop
    split at h
    · rename_i hc
      have hb : execOp ρ o = (do pure (.value (← Builtin.len_ c.argTypes o.type (c.args.map ρ)))) := by
        simp only [execOp, hop, resolve, hc]
        rfl
      rw [hb]
      exact resPlain_val w
    · cases h
  · cases h
theorem OpTo.inF {o : Oper} {a : Act} {Γ : G} {s' : St} {r : AV} (h : OpTo P o a Γ s' r) (hp : plainOp o.op = true) {F : Fence} (hF : ∀ f, F.fn f) {n : Nat} {next : Act → World → Prop} {Q : Exit → Act → World → Prop}
    (hn : ∀ Γ' v, Γ'.s = s' → Inv Γ' → Ext Γ Γ' → V Γ' r v → next (a.put o.dst v) Γ'.w) : o.wpIn F n P a Γ.w next Q := by
  have h0 := h next (fun _ _ _ => False) hn
  unfold Oper.wp at h0
  unfold Oper.wpIn
  refine ⟨fun f _ => hF f, ?_⟩
  rw [Oper.semAt_plain F _ _ (by intro c hc; rw [hc] at hp; cases hp)]
  have hr := plain_res (P := P) (ρ := a.eval) hp Γ.w
  revert h0 hr
  generalize (execOp a.eval o).run P Γ.w = x
  cases x with
  | ok x w => cases x <;> simp [resPlain, Oper.upon, Oper.uponIn]
  | halt x w => cases x <;> simp [Oper.upon]
/-- The temporaries, whatever calls are deferred. -/
structure EnvV (Γ : G) (env : Env) (a : Act) (m : Nat) : Prop where
  size : a.tmps.size = m
  val : ∀ t, V Γ (env t) (a.tmps.getD t undef)
theorem EnvV.put {Γ Γ' : G} {env : Env} {a : Act} {m : Nat} (h : EnvV Γ env a m) (hE : Ext Γ Γ') {d : Option Tmp} (hd : ∀ x, d = some x → x < m) {r : AV} {v : Value} (hv : V Γ' r v) : EnvV Γ' (setO env d r) (a.put d v) m := by
  obtain ⟨_, h2⟩ := put_tmps a d v
  refine ⟨h2.trans h.size, fun t => ?_⟩
  cases d with
  | none => exact V.ext hE (h.val t)
  | some d =>
    rw [put_get a d v t (by rw [h.size]; exact hd d rfl)]
    simp only [setO]
    by_cases ht : t = d
    · subst ht; simp only [upd_same, if_true]; exact hv
    · rw [upd_ne _ _ ht, if_neg ht]; exact V.ext hE (h.val t)
/-- The first operations of a region. -/
theorem opsA_in (hcall : FnOk P call) {F : Fence} (hF : ∀ f, F.fn f) {n : Nat} {ops : Array Oper} {rest : List Oper} {Q : Exit → Act → World → Prop} {m : Nat} : ∀ (l : List Oper) (env : Env) (Γ : G) (a : Act) (env' : Env) (s' : St),
    (∀ o ∈ l, plainOp o.op = true) → (∀ o ∈ l, ∀ d, o.dst = some d → d < m) → opsA P cfg call false ops l env Γ.s = some (env', s') → Inv Γ → EnvV Γ env a m →
    (∀ Γ' a', Γ'.s = s' → Inv Γ' → Ext Γ Γ' → EnvV Γ' env' a' m → a'.defers = a.defers → wpListIn F n P ops Q rest a' Γ'.w) → wpListIn F n P ops Q (l ++ rest) a Γ.w
  | [], env, Γ, a, env', s', _, _, h, hI, he, hQ => by
    simp only [opsA, Option.some.injEq, Prod.mk.injEq] at h
    obtain ⟨rfl, rfl⟩ := h
    exact hQ Γ a rfl hI (.refl _) he rfl
  | o :: l, env, Γ, a, env', s', hp, hd, h, hI, he, hQ => by
    have hd1 : ∀ x, o.dst = some x → x < m := hd o (List.mem_cons_self ..)
    have hd2 : ∀ o' ∈ l, ∀ d, o'.dst = some d → d < m := fun o' ho' => hd o' (List.mem_cons_of_mem _ ho')
    have hp1 := hp o (List.mem_cons_self ..)
    have hp2 : ∀ o' ∈ l, plainOp o'.op = true := fun o' ho' => hp o' (List.mem_cons_of_mem _ ho')
    have hwant : ∀ b, wantA ops o env = some b → Region.wanted o (yielded ops a.tmps) = b := fun b hb => wantA_ok hb fun _ _ d _ _ => he.val d
    simp only [opsA] at h
    rw [List.cons_append]
    refine wpListIn_step fun K hK => ?_
    split at h
    · rename_i hw
      rw [hwant true hw]
      simp only [if_true]
      simp only [Option.bind_eq_some_iff] at h
      obtain ⟨⟨r, s1⟩, hop, h⟩ := h
      have hop' := opA_ok hcall hI (a := a) (fun x _ => V_ev he.val x) hop
      refine hop'.inF hp1 hF fun Γ' v hs' hI' hE' hv => hK _ _ ?_
      rw [← hs'] at h
      exact opsA_in hcall hF l _ Γ' _ env' s' hp2 hd2 h hI' (he.put hE' hd1 hv) fun Γ'' a'' h1 h2 h3 h4 h5 => hQ Γ'' a'' h1 h2 (hE'.trans h3) h4 (h5.trans (put_tmps a o.dst v).1)
    · rename_i hw
      rw [hwant false hw]
      simp only [Bool.false_eq_true, if_false]
      refine ⟨fun f _ => hF f, hK _ _ ?_⟩
      exact opsA_in hcall hF l _ Γ _ env' s' hp2 hd2 h hI (he.put (.refl _) hd1 undef_tup) fun Γ'' a'' h1 h2 h3 h4 h5 => hQ Γ'' a'' h1 h2 h3 h4 (h5.trans (put_tmps a o.dst undef).1)
    · cases h
/-- Code of plain regions. -/
def plainC : Code → Bool
  | .region _ ops draw => !draw && ops.toList.all fun o => plainOp o.op
  | .seq a b => plainC a && plainC b
  | .cond _ a b => plainC a && plainC b
  | .block _ a => plainC a
  | .skip | .exit _ | .ret => true
  | _ => false
theorem den_in (hcall : FnOk P call) {F : Fence} (hF : ∀ f, F.fn f) {n N m : Nat} {out : Out} : ∀ (c : Code) (K : Kont) (env : Env) (Γ : G) (a : Act) (Q : Exit → Act → World → Prop), plainC c = true → dstOk cfg.keep m c = true → den P cfg call N c K env Γ.s = some out → Inv Γ → EnvV Γ env a m →
    (∀ ex env' Γ' a', K ex env' Γ'.s = some out → Inv Γ' → Ext Γ Γ' → EnvV Γ' env' a' m → a'.defers = a.defers → Q (exOf ex) a' Γ'.w) → c.wpIn F n P Q a Γ.w := by
  intro c
  induction c with
  | skip => intro K env Γ a Q _ _ h hI he hQ; exact wpIn_skip (hQ .normal env Γ a h hI (.refl _) he rfl)
  | exit id => intro K env Γ a Q _ _ h hI he hQ; exact wpIn_exit (hQ (.exit id) env Γ a h hI (.refl _) he rfl)
  | ret => intro K env Γ a Q _ _ h hI he hQ; exact wpIn_ret (hQ .ret env Γ a h hI (.refl _) he rfl)
  | region id ops draw =>
    intro K env Γ a Q hp hd h hI he hQ
    simp only [plainC, Bool.and_eq_true, Bool.not_eq_true', List.all_eq_true] at hp
    obtain ⟨rfl, hp⟩ := hp
    simp only [den, Option.bind_eq_some_iff, killI] at h
    obtain ⟨⟨env', s'⟩, h1, h2⟩ := h
    simp only [dstOk, Bool.and_eq_true] at hd
    have hd1 : ∀ o ∈ ops.toList, ∀ d, o.dst = some d → d < m := fun o ho d hdd => by
      have := List.all_eq_true.1 hd.1 o ho
      rw [hdd] at this
      simpa using this
    refine wpIn_region_list ?_
    rw [← List.append_nil ops.toList]
    refine opsA_in hcall hF ops.toList env Γ a env' s' hp hd1 h1 hI he fun Γ' a' g1 g2 g3 g4 g5 => wpListIn_nil (hQ .normal env' Γ' a' ?_ g2 g3 g4 g5)
    rw [g1]; exact h2
  | seq x y ihx ihy =>
    intro K env Γ a Q hp hd h hI he hQ
    simp only [dstOk, Bool.and_eq_true] at hd
    simp only [plainC, Bool.and_eq_true] at hp
    simp only [den] at h
    refine wpIn_seq (ihx _ env Γ a _ hp.1 hd.1 h hI he fun ex env' Γ' a' g1 g2 g3 g4 g5 => ?_)
    cases ex with
    | normal => exact ihy K env' Γ' a' Q hp.2 hd.2 g1 g2 g4 fun ex2 env2 Γ2 a2 k1 k2 k3 k4 k5 => hQ ex2 env2 Γ2 a2 k1 k2 (g3.trans k3) k4 (k5.trans g5)
    | exit id => exact hQ (.exit id) env' Γ' a' g1 g2 g3 g4 g5
    | ret => exact hQ .ret env' Γ' a' g1 g2 g3 g4 g5
  | cond c x y ihx ihy =>
    intro K env Γ a Q hp hd h hI he hQ
    simp only [dstOk, Bool.and_eq_true] at hd
    simp only [plainC, Bool.and_eq_true] at hp
    simp only [den] at h
    have hV := V_ev he.val c
    split at h
    · rename_i hc
      rw [hc, V_bool] at hV
      exact wpIn_cond_true hV (ihx K env Γ a Q hp.1 hd.1 h hI he hQ)
    · rename_i hc
      rw [hc, V_bool] at hV
      exact wpIn_cond_false hV (ihy K env Γ a Q hp.2 hd.2 h hI he hQ)
    · cases h
  | block id x ih =>
    intro K env Γ a Q hp hd h hI he hQ
    simp only [dstOk] at hd
    simp only [plainC] at hp
    simp only [den] at h
    refine wpIn_block (ih _ env Γ a _ hp hd h hI he fun ex env' Γ' a' g1 g2 g3 g4 g5 => ?_)
    cases ex with
    | normal => exact hQ .normal env' Γ' a' g1 g2 g3 g4 g5
    | exit i =>
      simp only [exOf, Exit.inBlock]
      dsimp only at g1
      split at g1
      · rename_i hi; rw [if_pos hi]; exact hQ .normal env' Γ' a' g1 g2 g3 g4 g5
      · rename_i hi; rw [if_neg hi]; exact hQ (.exit i) env' Γ' a' g1 g2 g3 g4 g5
    | ret => exact hQ .ret env' Γ' a' g1 g2 g3 g4 g5
  | _ => intro K env Γ a Q hp; cases hp

/-! ### What the book-keeping of a range over a function turns -/
theorem blk_cells {w : World} {a : Addr} {v : Value} (h : w.cell? a = some v) : ∃ o, w.heap[a.block]? = some o ∧ o.isCells = true := by
  obtain ⟨o, ho, hc⟩ := cells_of_cell h
  exact ⟨o, ho, hc⟩
/-- Entries hold something, or nothing. -/
def Solid (s : St) : Prop := ∀ p, (s p).c = .dead ∨ ∃ x xs, (s p).c = .buf (x :: xs)
theorem Inv.grown {Γ1 Γ : G} {B : Nat} (hI : Inv Γ) (hE : Ext Γ1 Γ) (hB : Γ1.w.heap.size ≤ B) (hS : ∀ b o, Γ.S b o → b < B ∨ ∃ v, Γ.w.cell? ⟨b, o, none⟩ = some v) (hR : Solid Γ.s)
    {W' : World} {row : Option Nat} (hg : Γ.w.grownBy W' row) (hr : ∀ r, row = some r → B ≤ r ∧ ∃ o : Obj, Γ.w.heap[r]? = some o ∧ o.isCells = false) :
    Inv { Γ with w := W' } ∧ Ext Γ1 { Γ with w := W' } ∧ ∀ b o, Γ.S b o → b < B ∨ ∃ v, W'.cell? ⟨b, o, none⟩ = some v := by
  have hrow : ∀ r, row = some r → ∃ o : Obj, Γ.w.heap[r]? = some o ∧ o.isCells = false := fun r h => (hr r h).2
  have hlow : ∀ b, b < B → b < Γ.w.heap.size → W'.heap[b]? = Γ.w.heap[b]? := fun b hb hs => hg.block b hs fun e => by
    have := (hr b e.symm).1
    omega
  have hsz : Γ.w.heap.size ≤ W'.heap.size := hg.size
  have hcell : ∀ b o, Γ.S b o → W'.cell? ⟨b, o, none⟩ = Γ.w.cell? ⟨b, o, none⟩ := fun b o h => by
    rcases hS b o h with h1 | ⟨v, h1⟩
    · exact cell_of_block (hlow b h1 (hI.stay b o h).1) o
    · rw [h1]; exact cell_kept h1 hg hrow
  have hst : Stays Γ.S Γ.w Γ.S W' := fun b o h => ⟨h, hcell b o h⟩
  refine ⟨⟨fun p => ?_, hI.apart, fun b o h => ⟨Nat.lt_of_lt_of_le (hI.stay b o h).1 hsz, (hI.stay b o h).2⟩⟩, ⟨hE.stays.trans hst, hg.os.trans hE.os, hg.tape.trans hE.tape, hg.output.trans hE.output, Nat.le_trans hE.size hsz, fun b hb hn => ?_, fun b o hb hn => ?_, fun b o hb hn => ?_, hE.newS, hE.newR, hE.ser, hE.bf, hE.tk⟩, fun b o h => ?_⟩
  · have he := hI.ent p
    unfold EntOk at he ⊢
    dsimp only
    rcases hR p with h | ⟨x, xs, h⟩
    · rw [h]; trivial
    · rw [h] at he ⊢
      simp only [EntC] at he ⊢
      obtain ⟨v0, hv0, _⟩ := he.2.2.1 0 x rfl
      obtain ⟨ob, ho, hc⟩ := blk_cells hv0
      have hb : W'.heap[(Γ.φ p).blk]? = Γ.w.heap[(Γ.φ p).blk]? := grownBy_keeps_cells hg hrow ho hc
      refine ⟨Nat.lt_of_lt_of_le he.1 hsz, fun o => by rw [frozen_of_block hb]; exact he.2.1 o, fun i x hx => ?_, fun i hi => ?_⟩
      · obtain ⟨v, g1, g2, g3⟩ := he.2.2.1 i x hx
        exact ⟨v, by rw [cell_of_block hb]; exact g1, g2, V0.mono hst _ _ g3⟩
      · obtain ⟨v, g1⟩ := he.2.2.2 i hi
        exact ⟨v, by rw [cell_of_block hb]; exact g1⟩
  · exact (hlow b (by omega) (Nat.lt_of_lt_of_le hb hE.size)).trans (hE.block b hb hn)
  · exact (cell_of_block (hlow b (by omega) (Nat.lt_of_lt_of_le hb hE.size)) o).trans (hE.cell b o hb hn)
  · exact (frozen_of_block (hlow b (by omega) (Nat.lt_of_lt_of_le hb hE.size)) o).trans (hE.frzn b o hb hn)
  · rcases hS b o h with h1 | ⟨v, h1⟩
    · exact .inl h1
    · exact .inr ⟨v, cell_kept h1 hg hrow⟩
/-- What is no cells lies as it lay. -/
theorem others_of_ext {Γ Γ' : G} (hI : Inv Γ) (hR : Solid Γ.s) (hE : Ext Γ Γ') : KeepsOthers Γ.w Γ'.w := by
  refine ⟨hE.size, fun k o hk ho => ?_⟩
  have hlt : k < Γ.w.heap.size := (Array.getElem?_eq_some_iff.1 hk).1
  rw [hE.block k hlt fun p q hr => ?_]
  · exact hk
  · rcases hR p with h | ⟨x, xs, h⟩
    · unfold Rg at hr; rw [h] at hr; exact hr
    · unfold Rg at hr; rw [h] at hr
      have he := hI.ent p
      unfold EntOk at he
      rw [h] at he
      obtain ⟨v0, hv0, _⟩ := he.2.2.1 0 x rfl
      obtain ⟨ob, ho', hc⟩ := blk_cells hv0
      dsimp only at ho'
      rw [← hr, hk] at ho'
      cases ho'
      rw [ho] at hc; cases hc
/-! ### Only cells that are there count -/
section
variable {S : Nat → Nat → Prop} {w : World}
def Here (S : Nat → Nat → Prop) (w : World) : Nat → Nat → Prop := fun b o => S b o ∧ ∃ v, w.cell? ⟨b, o, none⟩ = some v
mutual
theorem V0.here : ∀ (x : AV) (v : Value), V0 S w x v → V0 (Here S w) w x v
  | .undef, _, _ => by simp only [V0]
  | .int .., _, k => by simpa only [V0] using k
  | .bool _, _, k => by simpa only [V0] using k
  | .str _, _, k => by simpa only [V0] using k
  | .agg xs, v, k => by
    simp only [V0] at k ⊢
    obtain ⟨vs, hv, hl⟩ := k
    exact ⟨vs, hv, VL.here xs vs hl⟩
  | .tup xs, v, k => by
    simp only [V0] at k ⊢
    obtain ⟨vs, hv, hl⟩ := k
    exact ⟨vs, hv, VT.here xs vs hl⟩
  | .sl xs len g, v, k => by
    simp only [V0] at k ⊢
    obtain ⟨a, cap, hv, hl, hg, hk, hx⟩ := k
    refine ⟨a, cap, hv, hl, hg, hk, ?_⟩
    rcases hx with hx | ⟨b, o, ha, hc⟩
    · exact .inl hx
    · exact .inr ⟨b, o, ha, VC.here xs b o hc⟩
  | .own .., _, k => by simp only [V0] at k
  | .ptr .., _, k => by simp only [V0] at k
  | .rptr xs, v, k => by
    simp only [V0] at k ⊢
    obtain ⟨b, o, hv, hc⟩ := k
    exact ⟨b, o, hv, VC.here xs b o hc⟩
  | .nilp, _, k => by simpa only [V0] using k
  | .fn f xs, v, k => by
    simp only [V0] at k ⊢
    obtain ⟨vs, hv, hl⟩ := k
    exact ⟨vs, hv, VT.here xs vs hl⟩
  | .iface t x, v, k => by
    simp only [V0] at k ⊢
    obtain ⟨u, hv, hl⟩ := k
    exact ⟨u, hv, V0.here x u hl⟩
  | .nili, _, k => by simpa only [V0] using k
theorem VL.here : ∀ (xs : List AV) (vs : List Value), VL S w xs vs → VL (Here S w) w xs vs
  | [], _, k => by simpa only [VL] using k
  | x :: xs, vs, k => by
    simp only [VL] at k ⊢
    obtain ⟨v, r, hv, ho, h0, hr⟩ := k
    exact ⟨v, r, hv, ho, V0.here x v h0, VL.here xs r hr⟩
theorem VT.here : ∀ (xs : List AV) (vs : List Value), VT S w xs vs → VT (Here S w) w xs vs
  | [], _, k => by simpa only [VT] using k
  | x :: xs, vs, k => by
    simp only [VT] at k ⊢
    obtain ⟨v, r, hv, h0, hr⟩ := k
    exact ⟨v, r, hv, V0.here x v h0, VT.here xs r hr⟩
theorem VC.here : ∀ (xs : List AV) (b o : Nat), VC S w xs b o → VC (Here S w) w xs b o
  | [], _, _, _ => by simp only [VC]
  | x :: xs, b, o, k => by
    simp only [VC] at k ⊢
    obtain ⟨hs, ⟨v, hv, ho, h0⟩, hr⟩ := k
    exact ⟨⟨hs, v, hv⟩, ⟨v, hv, ho, V0.here x v h0⟩, VC.here xs b (o + 1) hr⟩
end
theorem Stays.sub {S' : Nat → Nat → Prop} (h : ∀ b o, S b o → S' b o) : Stays S w S' w := fun b o hs => ⟨h b o hs, rfl⟩
end

/-! ### What is looked for behind plain code -/
open Classical in
noncomputable def capK (φ : Ex → Env → St → Prop) : Kont := fun e env s => if φ e env s then some (.tree .undef, []) else none
theorem capK_of {φ : Ex → Env → St → Prop} {e : Ex} {env : Env} {s : St} (h : φ e env s) : capK φ e env s = some (.tree .undef, []) := by unfold capK; rw [if_pos h]
theorem of_capK {φ : Ex → Env → St → Prop} {e : Ex} {env : Env} {s : St} {o : Out} (h : capK φ e env s = some o) : φ e env s := by
  unfold capK at h
  split at h
  · assumption
  · cases h
theorem den_cap (hcall : FnOk P call) {F : Fence} (hF : ∀ f, F.fn f) {n N m : Nat} (φ : Ex → Env → St → Prop) {c : Code} {env : Env} {Γ : G} {a : Act} {Q : Exit → Act → World → Prop} (hp : plainC c = true) (hd : dstOk cfg.keep m c = true)
    (h : den P cfg call N c (capK φ) env Γ.s = some (.tree .undef, [])) (hI : Inv Γ) (he : EnvV Γ env a m)
    (hQ : ∀ ex env' Γ' a', φ ex env' Γ'.s → Inv Γ' → Ext Γ Γ' → EnvV Γ' env' a' m → a'.defers = a.defers → Q (exOf ex) a' Γ'.w) : c.wpIn F n P Q a Γ.w :=
  den_in hcall hF c (capK φ) env Γ a Q hp hd h hI he fun ex env' Γ' a' h1 h2 h3 h4 h5 => hQ ex env' Γ' a' (of_capK h1) h2 h3 h4 h5

/-- Operations that only look. -/
def lookOp : Op → Bool
  | .move _ | .assign _ | .load .. | .binOp .. | .unOp .. | .indexAddr .. => true
  | .call c => match c.callee with
    | .builtin .len => true
    | _ => false
  | _ => false
theorem opA_look {o : Oper} {d : Nat} {env : Env} {Γ : G} {a : Act} {r : AV} {s' : St} (hl : lookOp o.op = true) (hI : Inv Γ) (hev : OpsOk Γ env a o) (h : opA P cfg call false o d env Γ.s = some (r, s')) :
    s' = Γ.s ∧ ∃ v, (execOp a.eval o).run P Γ.w = .ok (.value v) Γ.w ∧ V Γ r v := by
  have fin : ∀ {m : Sem Value} {r : AV}, execOp a.eval o = (do pure (.value (← m))) → PureOk P m Γ r → ∃ v, (execOp a.eval o).run P Γ.w = .ok (.value v) Γ.w ∧ V Γ r v := by
    rintro m r hex ⟨v, h1, h2⟩
    exact ⟨v, by rw [hex, Sem.run_bind, h1]; rfl, h2⟩
  unfold OpsOk at hev
  unfold lookOp at hl
  unfold opA at h
  dsimp only at h
  split at h
  · rename_i x hop
    cases h
    rw [hop] at hev
    exact ⟨rfl, _, by simp only [execOp, hop]; rfl, hev x (by simp [Op.operands])⟩
  · rename_i x hop
    cases h
    rw [hop] at hev
    exact ⟨rfl, _, by simp only [execOp, hop]; rfl, hev x (by simp [Op.operands])⟩
  · rename_i hop; rw [hop] at hl; cases hl
  · rename_i op t x y yt hop
    rw [hop] at hev
    obtain ⟨r', hr, e⟩ := map_some h
    cases e
    exact ⟨rfl, fin (by simp only [execOp, hop]) (binA_ok hr (hev x (by simp [Op.operands])) (hev y (by simp [Op.operands])) x y)⟩
  · rename_i op t x hop
    rw [hop] at hev
    obtain ⟨r', hr, e⟩ := map_some h
    cases e
    exact ⟨rfl, fin (by simp only [execOp, hop]) (unA_ok hr (hev x (by simp [Op.operands])))⟩
  · rename_i hop; rw [hop] at hl; cases hl
  · rename_i hop; rw [hop] at hl; cases hl
  · rename_i t x hop
    rw [hop] at hev
    obtain ⟨r', hr, e⟩ := map_some h
    cases e
    exact ⟨rfl, fin (by simp only [execOp, hop]) (loadA_ok hI hr (hev x (by simp [Op.operands])))⟩
  · rename_i hop; rw [hop] at hl; cases hl
  · rename_i hop; rw [hop] at hl; cases hl
  · rename_i hop; rw [hop] at hl; cases hl
  · rename_i t x i hop
    rw [hop] at hev
    obtain ⟨r', hr, e⟩ := map_some h
    cases e
    exact ⟨rfl, fin (by simp only [execOp, hop]) (indexAddrA_ok hr (hev x (by simp [Op.operands])) (hev i (by simp [Op.operands])))⟩
  · rename_i hop; rw [hop] at hl; cases hl
  · rename_i hop; rw [hop] at hl; cases hl
  · rename_i hop; rw [hop] at hl; cases hl
  · rename_i hop; rw [hop] at hl; cases hl
  · rename_i hop; rw [hop] at hl; cases hl
  · rename_i hop; rw [hop] at hl; cases hl
  · rename_i hop; rw [hop] at hl; cases hl
  · rename_i hop; rw [hop] at hl; cases hl
  · rename_i hop; rw [hop] at hl; cases hl
  · rename_i c hop
    rw [hop] at hev hl
    dsimp only at hl
    have hargs : ∀ x ∈ c.args.toList, V Γ (ev env x) (a.eval x) := fun x hx => hev x (by
      simp only [Op.operands, Call.operands, Array.mem_append]; exact .inr (Array.mem_def.2 hx))
    split at h
    · rename_i hb
      split at h
      · rename_i x t hx ht
        obtain ⟨r', hr, e⟩ := map_some h
        cases e
        refine ⟨rfl, fin (builtinOp (m := Builtin.len_ c.argTypes o.type (c.args.map a.eval)) hop hb rfl) ?_⟩
        have : c.args.map a.eval = #[a.eval x] := by apply Array.ext'; simp [hx]
        rw [this]
        exact lenA_ok hr (hargs x (by rw [hx]; simp)) _ _ ht
      · cases h
    all_goals first
      | (cases h; done)
      | (split at hl
         · simp_all
         · cases hl)
  · cases h
/-- Regions that only look, and their first operations. -/
theorem opsA_look {F : Fence} (hF : ∀ f, F.fn f) {n : Nat} {ops : Array Oper} {rest : List Oper} {Q : Exit → Act → World → Prop} {m : Nat} {Γ : G} (hI : Inv Γ) : ∀ (l : List Oper) (env : Env) (a : Act) (env' : Env) (s' : St),
    (∀ o ∈ l, lookOp o.op = true ∧ o.guard = none) → (∀ o ∈ l, ∀ d, o.dst = some d → d < m) → opsA P cfg call false ops l env Γ.s = some (env', s') → EnvV Γ env a m →
    (∀ a', EnvV Γ env' a' m → a'.defers = a.defers → (∀ t, (∀ o ∈ l, o.dst ≠ some t) → a'.tmps.getD t undef = a.tmps.getD t undef) → wpListIn F n P ops Q rest a' Γ.w) → wpListIn F n P ops Q (l ++ rest) a Γ.w
  | [], env, a, env', s', _, _, h, he, hQ => by
    simp only [opsA, Option.some.injEq, Prod.mk.injEq] at h
    obtain ⟨rfl, rfl⟩ := h
    exact hQ a he rfl fun _ _ => rfl
  | o :: l, env, a, env', s', hp, hd, h, he, hQ => by
    have hd1 : ∀ x, o.dst = some x → x < m := hd o (List.mem_cons_self ..)
    have hp1 := hp o (List.mem_cons_self ..)
    simp only [opsA, wantA, hp1.2, Option.bind_eq_some_iff] at h
    obtain ⟨⟨r, s1⟩, hop, h⟩ := h
    rw [List.cons_append]
    refine wpListIn_plain hp1.2 fun K hK => ?_
    obtain ⟨rfl, v, hv1, hv2⟩ := opA_look hp1.1 hI (a := a) (fun x _ => V_ev he.val x) hop
    refine ⟨fun f _ => hF f, ?_⟩
    rw [Oper.semAt_plain F _ _ (by intro c hc; have := hp1.1; rw [hc] at this; cases this), hv1]
    refine hK _ _ ?_
    refine opsA_look hF hI l _ _ env' s' (fun o' ho' => hp o' (List.mem_cons_of_mem _ ho')) (fun o' ho' => hd o' (List.mem_cons_of_mem _ ho')) h (he.put (.refl _) hd1 hv2) fun a'' h4 h5 h6 => hQ a'' h4 (h5.trans (put_tmps a o.dst v).1) fun t ht => ?_
    rw [h6 t fun o' ho' => ht o' (List.mem_cons_of_mem _ ho')]
    have hot := ht o (List.mem_cons_self ..)
    cases hdst : o.dst with
    | none => rfl
    | some d => rw [put_get a d v t (by rw [he.size]; exact hd1 d hdst), if_neg (fun e => hot (by rw [hdst, e]))]
/-- The answer of a region, out of what goes on behind it. -/
theorem ops1_cap {q : Bool} {all : Array Oper} {l : List Oper} {φ : Ex → Env → St → Prop} {env : Env} {s : St} {o : Out} (h : ops1 P cfg call q all l (capK φ) env s = some o) : ∃ env' s', opsA P cfg call q all l env s = some (env', s') ∧ φ .normal env' s' := by
  unfold ops1 at h
  simp only [Option.bind_eq_some_iff] at h
  obtain ⟨⟨env', s'⟩, h1, h2⟩ := h
  exact ⟨env', s', h1, of_capK h2⟩
/-- A call of a function, in the wide fence. -/
theorem callInF {o : Oper} {a : Act} {w : World} {c : Call} {fo : Operand} {n : Nat} (ho : o.op = .call c) (hc : c.callee = .value fo) {f : FuncId} {caps : List Value} (hf : a.eval fo = .func (.func f) #[] caps.toArray)
    {fn : Func} {cd : Code} (h1 : P.funcs[f]? = some fn) (h2 : fn.name ≠ "runtime.NumGoroutine") (h3 : fn.body = some cd) {R : Ending → World → Prop} (hC : Calls P f (c.args.toList.map a.eval ++ caps).toArray w R)
    {next : Act → World → Prop} {Q : Exit → Act → World → Prop} (hR : ∀ e w', R e w' → ∃ v, e = .returned v ∧ next (a.put o.dst v) w') : o.wpIn Fence.wide n P a w next Q := by
  have hrun : (execOp a.eval o).run P w = .ok (.enter f (c.args.toList.map a.eval ++ caps).toArray) w := by
    have hne : (fn.name == "runtime.NumGoroutine") = false := by simpa using h2
    have hargs : c.args.map a.eval ++ caps.toArray = (c.args.toList.map a.eval ++ caps).toArray := by
      apply Array.ext'; simp
    simp only [execOp, ho, resolve, hc, Sem.run_bind, Deferred.ofValue, hf, Sem.run_pure, Result.andThen_ok, invoke, callFunc, run_program, h1, hne, h3, Option.isNone_some, Bool.false_eq_true, if_false, Array.empty_append, hargs]
  refine ⟨fun f _ => trivial, ?_⟩
  rw [Oper.semAt_plain _ _ _ (by intro c hc; rw [hc] at ho; cases ho), hrun]
  refine ⟨fun h => (by cases h), (callsIn_wide.2 hC).mono fun e w' hr => ?_⟩
  obtain ⟨v, rfl, hn⟩ := hR e w' hr
  exact hn
/-- A round, in the wide fence. -/
theorem roundInF {o : Oper} {a : Act} {w : World} {c : Call} {fo : Operand} {n l : Nat} (ho : o.op = .call c) (hc : c.callee = .value fo) (hf : a.eval fo = .func (.yield l) #[] #[])
    {R : Ending → World → Prop} (hY : YieldAt Fence.wide (n - 1) P l (c.args.toList.map a.eval).toArray w R)
    {next : Act → World → Prop} {Q : Exit → Act → World → Prop} (hR : ∀ e w', R e w' → ∃ v, e = .returned v ∧ next (a.put o.dst v) w') : o.wpIn Fence.wide n P a w next Q := by
  obtain ⟨fn, tmps, assign, body, hy, hr⟩ := hY
  have hrun : (execOp a.eval o).run P w = .ok (.round l fn tmps assign body) w := by
    have hargs : c.args.map a.eval = (c.args.toList.map a.eval).toArray := by
      apply Array.ext'; simp
    simp only [execOp, ho, resolve, hc, Sem.run_bind, Deferred.ofValue, hf, Sem.run_pure, Result.andThen_ok, invoke, Array.empty_append]
    rw [hargs]
    exact hy
  refine ⟨fun f _ => trivial, ?_⟩
  rw [Oper.semAt_plain _ _ _ (by intro c hc; rw [hc] at ho; cases ho), hrun]
  refine ⟨fun h => (by cases h), hr.mono fun e w' hr => ?_⟩
  obtain ⟨v, rfl, hn⟩ := hR e w' hr
  exact hn
end
end Go.Ab
