/- Several texts put together: AbnR1, AbnR2, AbnR3, AbnR4, AbnR5, AbnR6, AbnR7, AbnR8, AbnR9, AbnR10. Conditions: as each part says. -/
import Derived.Test.YtdibanolokkniaaDoorAbnLL
/- The reference's own functions on numbers: reading, normal forms, comparing. Conditions: limbs in range, not too many. -/
namespace Go.Ab
open Go.Proofs
set_option maxRecDepth 100000
set_option linter.unusedSimpArgs false

theorem rat_eq (n d : Nat) (b : Gk) (l : List Nat) (hl : ∀ x ∈ l, x < 4294967296) (i : Int) (hi : 0 ≤ i) : evalFn Tryd.prog cfg0 n (d+1) 71 [.tree (encL b l), .tree (.int .i64 i)] = some (.tree (.int .u64 ((l.getD i.toNat 0 : Nat) : Int)), [[],[]]) := by
  rw [evalFn_go _ Tryd.func71 (by unfold Tryd.f71; rfl) (by unfold Tryd.f71; decide) (Nat.le_of_ble_eq_true (by unfold Tryd.f71; rfl)) (by kernel_rfl)]
  have hx := getD_lt l hl i.toNat
  by_cases h : i < l.length
  · have h' : i.toNat < l.length := by omega
    simp only [zaa, zab, zac, zad, zae, zaf, zag, zah, zai, zaj, zak, zal, zam, zan, zao, zap, zaq, zar, zas, zat, zau, zav, zaw, zax, zay, zaz, zba, zbb, zbc, zbd, zbe, zbf, zbg, zbh, zbi, zbj, Nat.reduceBEq, Bool.or_self, Bool.or_false, Bool.or_true, Bool.and_true, Bool.and_false, Bool.true_and, Bool.false_and, Option.isNone_none, Option.isNone_some, Option.isSome_some, Option.isSome_none, zbk, zbl, zbm, zbn, zbo, zbp, zbq, zbr, zbs, zbt, zbu, zbv, zbw, zbx, zby, zbz, zca, zcb, zcc, zcd, zce, zcf, zcg, zch, zci, zcj, zck, zcl, zcm, zcn, zco, zcp, zcq, zcr, zcs, zct, zcu, zcv, zcw, zcx, zcy, zcz, zda, zdb, zdc, zdd, zde, zdf, Option.getD_some, Option.getD_none, zet, zeu, zev, zew, zex, zey, zez, zfa, Option.map_some, Option.map_none, Option.bind_some, List.map_cons, List.map_nil, List.cons_append, List.nil_append, ↓reduceIte, Nat.reduceEqDiff, Nat.reduceAdd, decide_true, decide_false, Bool.true_eq_false, Bool.false_eq_true, env0, List.getElem?_cons_zero, List.getElem?_cons_succ, zdg, zdh, zdi, zdj, zdk, zdl, zdm, zdn, ia22, ld31, zdo, zdp, h, hi, h', hx]
    rfl
  · have hx : l.getD i.toNat 0 = 0 := by
      rw [List.getD_eq_getElem?_getD, List.getElem?_eq_none (by omega)]; rfl
    simp only [zaa, zab, zac, zad, zae, zaf, zag, zah, zai, zaj, zak, zal, zam, zan, zao, zap, zaq, zar, zas, zat, zau, zav, zaw, zax, zay, zaz, zba, zbb, zbc, zbd, zbe, zbf, zbg, zbh, zbi, zbj, Nat.reduceBEq, Bool.or_self, Bool.or_false, Bool.or_true, Bool.and_true, Bool.and_false, Bool.true_and, Bool.false_and, Option.isNone_none, Option.isNone_some, Option.isSome_some, Option.isSome_none, zbk, zbl, zbm, zbn, zbo, zbp, zbq, zbr, zbs, zbt, zbu, zbv, zbw, zbx, zby, zbz, zca, zcb, zcc, zcd, zce, zcf, zcg, zch, zci, zcj, zck, zcl, zcm, zcn, zco, zcp, zcq, zcr, zcs, zct, zcu, zcv, zcw, zcx, zcy, zcz, zda, zdb, zdc, zdd, zde, zdf, Option.getD_some, Option.getD_none, zet, zeu, zev, zew, zex, zey, zez, zfa, Option.map_some, Option.map_none, Option.bind_some, List.map_cons, List.map_nil, List.cons_append, List.nil_append, ↓reduceIte, Nat.reduceEqDiff, Nat.reduceAdd, decide_true, decide_false, Bool.true_eq_false, Bool.false_eq_true, env0, List.getElem?_cons_zero, List.getElem?_cons_succ, zdg, zdh, zdi, zdj, zdk, zdl, zdm, zdn, ia22, ld31, zdo, zdp, h, hx]
    rfl

theorem rat_call (n d : Nat) (b : Gk) (l : List Nat) (hl : Limbs l) (k : Nat) (D : Nat) (s : St) : callA cfg0 (evalFn Tryd.prog cfg0 n (d+1)) D s 71 [encL b l, .int .i64 (k : Int)] = some (.int .u64 ((l.getD k 0 : Nat) : Int), s) :=
  callA_Li _ _ _ _ _ _ _ _ _ (rat_eq n d b l hl k (by omega))
/-- A part of a list, from its beginning. -/
theorem slice22h (s : St) (b : Gk) (l : List Nat) (k : Nat) (h : k ≤ l.length) : ∃ b', sliceA Tryd.prog 22 s (encL b l) none (some (.int .i64 (k : Int))) none = some (encL b' (l.take k)) := by
  have hx : (encC l).length = l.length * 1 := by rw [encC_len]; omega
  simp only [sliceA, tk22, encL, esz31, Option.isSome_none, Option.isNone_some, Bool.false_eq_true, false_and, if_false, boundA, Option.bind_some, hx, if_true, Int.toNat_natCast]
  rw [if_pos (by omega)]
  simp only [Option.bind_some, Nat.zero_mul, List.drop_zero, Nat.sub_zero, Nat.mul_one, encC_take]
  have hl : (l.take k).length = k := by rw [List.length_take]; omega
  rw [hl]
  by_cases hc : (false = true ∧ l.length = k) ∨ (none = (none : Option AV) ∧ (gr b = .tight ∨ gr b = .nil) ∧ k = l.length)
  · exact ⟨.t, by simp_all [gr]⟩
  · exact ⟨.l, by simp_all [gr]⟩
def encF (v : Nat) : AV := encL .l (digs v)
theorem rnorm_eq (n d : Nat) (b : Gk) (l : List Nat) (hl : Limbs l) (hn : l.length < n) (hlen : l.length ≤ 1000000) : evalFn Tryd.prog cfg0 n (d+1) 72 [.tree (encL b l)] = some (.tree (encF (val l)), [[]]) := by
  rw [evalFn_go _ Tryd.func72 (by unfold Tryd.f72; rfl) (by unfold Tryd.f72; decide) (Nat.le_of_ble_eq_true (by unfold Tryd.f72; rfl)) (by kernel_rfl)]
  simp only [zaa, zab, zac, zad, zae, zaf, zag, zah, zai, zaj, zak, zal, zam, zan, zao, zap, zaq, zar, zas, zat, zau, zav, zaw, zax, zay, zaz, zba, zbb, zbc, zbd, zbe, zbf, zbg, zbh, zbi, zbj, Nat.reduceBEq, Bool.or_self, Bool.or_false, Bool.or_true, Bool.and_true, Bool.and_false, Bool.true_and, Bool.false_and, Option.isNone_none, Option.isNone_some, Option.isSome_some, Option.isSome_none, zbk, zbl, zbm, zbn, zbo, zbp, zbq, zbr, zbs, zbt, zbu, zbv, zbw, zbx, zby, zbz, zca, zcb, zcc, zcd, zce, zcf, zcg, zch, zci, zcj, zck, zcl, zcm, zcn, zco, zcp, zcq, zcr, zcs, zct, zcu, zcv, zcw, zcx, zcy, zcz, zda, zdb, zdc, zdd, zde, zdf, Option.getD_some, Option.getD_none, zet, zeu, zev, zew, zex, zey, zez, zfa, Option.map_some, Option.map_none, Option.bind_some, List.map_cons, List.map_nil, List.cons_append, List.nil_append, ↓reduceIte, Nat.reduceEqDiff, Nat.reduceAdd, decide_true, decide_false, Bool.true_eq_false, Bool.false_eq_true, env0, List.getElem?_cons_zero, List.getElem?_cons_succ, zdg, zdh, zdi, zdj, zdk, zdl, zdm, zdn, ia22, ld31, zdo, zdp, st0_1, den_loop]
  refine loop_ends (X := Nat) (fun k env s => env 0 = encL b l ∧ env 3 = .int .i64 (k : Int) ∧ s = dead ∧ k ≤ l.length ∧ val (l.take k) = val l) id (fun _ => (.tree (encF (val l)), [[]])) ?_ n l.length _ _ hn ⟨rfl, rfl, rfl, Nat.le_refl _, by simp⟩
  intro k x hx ih env s ⟨h0, h3, hs, hk, hv⟩
  subst hs
  obtain ⟨b', e3⟩ := slice22h dead b l x hk
  have fin : (∀ y, x = y + 1 → l.getD y 0 ≠ 0) → encF (val l) = .sl (encC (l.take x)) (l.take x).length .loose := by
    intro hz
    have hd : digs (val l) = l.take x := by
      rw [← hv]
      refine digs_val _ (hl.take _) ?_
      intro u hu
      cases x with
      | zero => simp at hu
      | succ y =>
        have el : (l.take (y + 1)).length = y + 1 := by rw [List.length_take]; omega
        rw [List.getLast?_eq_getElem?, el, Nat.add_sub_cancel, List.getElem?_take, if_pos (Nat.lt_succ_self y)] at hu
        have := hz y rfl
        rw [List.getD_eq_getElem?_getD, hu] at this
        exact this
    rw [encF, hd]; rfl
  obtain ⟨s', p, t, ea, _⟩ := append22t 21 dead (.sl [] 0 .nil) [] (l.take x) b' (hold_nil _) (by simp only [List.length_nil, List.length_take]; omega)
  rw [List.nil_append] at ea
  have hf : finish1 (cfg0.keep 72) [Arg.tree (encL b l)].length s' (.sl (encC (l.take x)) (l.take x).length (.tok p t)) = some (.tree (.sl (encC (l.take x)) (l.take x).length .loose), s') := rfl
  by_cases hp : x = 0
  · subst hp
    have q1 : ¬ (((0 : Nat) : Int) > 0) := by omega
    simp only [zaa, zab, zac, zad, zae, zaf, zag, zah, zai, zaj, zak, zal, zam, zan, zao, zap, zaq, zar, zas, zat, zau, zav, zaw, zax, zay, zaz, zba, zbb, zbc, zbd, zbe, zbf, zbg, zbh, zbi, zbj, Nat.reduceBEq, Bool.or_self, Bool.or_false, Bool.or_true, Bool.and_true, Bool.and_false, Bool.true_and, Bool.false_and, Option.isNone_none, Option.isNone_some, Option.isSome_some, Option.isSome_none, zbk, zbl, zbm, zbn, zbo, zbp, zbq, zbr, zbs, zbt, zbu, zbv, zbw, zbx, zby, zbz, zca, zcb, zcc, zcd, zce, zcf, zcg, zch, zci, zcj, zck, zcl, zcm, zcn, zco, zcp, zcq, zcr, zcs, zct, zcu, zcv, zcw, zcx, zcy, zcz, zda, zdb, zdc, zdd, zde, zdf, Option.getD_some, Option.getD_none, zet, zeu, zev, zew, zex, zey, zez, zfa, Option.map_some, Option.map_none, Option.bind_some, List.map_cons, List.map_nil, List.cons_append, List.nil_append, ↓reduceIte, Nat.reduceEqDiff, Nat.reduceAdd, decide_true, decide_false, Bool.true_eq_false, Bool.false_eq_true, zdg, zdh, zdi, zdj, zdk, zdl, zdm, zdn, ia22, ld31, zdo, zdp, h0, h3, q1, Option.map_none, e3, ea]
    rw [fin (by omega)]
    exact finish_tree _ _ _ _ _ _ (.sl (encC (l.take 0)) (l.take 0).length (.tok p t)) _ _ (by simp only [zfa, ↓reduceIte]) hf rfl
  · obtain ⟨y, rfl⟩ : ∃ y, x = y + 1 := ⟨x - 1, by omega⟩
    have p1 : ((y + 1 : Nat) : Int) > 0 := by omega
    have p2 : ((y + 1 : Nat) : Int) - 1 = (y : Int) := by omega
    have p3 : (y : Int) < l.length := by omega
    have p4 : y < l.length := by omega
    have p6 : (0 : Int) ≤ y := by omega
    have e1 : binA Tryd.prog .sub 3 (.int .i64 ((y + 1 : Nat) : Int)) (.int .i64 1) = some (.int .i64 (y : Int)) := by rw [i_sub _ _ _ _ (by omega) (by omega), p2]
    by_cases hz : l.getD y 0 = 0
    · have p5 : (((l.getD y 0 : Nat) : Int) == 0) = true := by rw [hz]; rfl
      simp only [zaa, zab, zac, zad, zae, zaf, zag, zah, zai, zaj, zak, zal, zam, zan, zao, zap, zaq, zar, zas, zat, zau, zav, zaw, zax, zay, zaz, zba, zbb, zbc, zbd, zbe, zbf, zbg, zbh, zbi, zbj, Nat.reduceBEq, Bool.or_self, Bool.or_false, Bool.or_true, Bool.and_true, Bool.and_false, Bool.true_and, Bool.false_and, Option.isNone_none, Option.isNone_some, Option.isSome_some, Option.isSome_none, zbk, zbl, zbm, zbn, zbo, zbp, zbq, zbr, zbs, zbt, zbu, zbv, zbw, zbx, zby, zbz, zca, zcb, zcc, zcd, zce, zcf, zcg, zch, zci, zcj, zck, zcl, zcm, zcn, zco, zcp, zcq, zcr, zcs, zct, zcu, zcv, zcw, zcx, zcy, zcz, zda, zdb, zdc, zdd, zde, zdf, Option.getD_some, Option.getD_none, zet, zeu, zev, zew, zex, zey, zez, zfa, Option.map_some, Option.map_none, Option.bind_some, List.map_cons, List.map_nil, List.cons_append, List.nil_append, ↓reduceIte, Nat.reduceEqDiff, Nat.reduceAdd, decide_true, decide_false, Bool.true_eq_false, Bool.false_eq_true, zdg, zdh, zdi, zdj, zdk, zdl, zdm, zdn, ia22, ld31, zdo, zdp, h0, h3, p1, e1, p6, p3, Int.toNat_natCast, p4, p5]
      refine ih y _ _ (Nat.lt_succ_self _) rfl ⟨?_, ?_, rfl, by omega, ?_⟩
      · simp only [zfa, ↓reduceIte, Nat.reduceEqDiff, h0]
      · simp only [zfa, ↓reduceIte, Nat.reduceEqDiff]
      · rw [← hv, val_take_succ _ _ p4, hz, Nat.mul_zero, Nat.add_zero]
    · have p5 : (((l.getD y 0 : Nat) : Int) == 0) = false := by
        rw [beq_eq_false_iff_ne]; omega
      simp only [zaa, zab, zac, zad, zae, zaf, zag, zah, zai, zaj, zak, zal, zam, zan, zao, zap, zaq, zar, zas, zat, zau, zav, zaw, zax, zay, zaz, zba, zbb, zbc, zbd, zbe, zbf, zbg, zbh, zbi, zbj, Nat.reduceBEq, Bool.or_self, Bool.or_false, Bool.or_true, Bool.and_true, Bool.and_false, Bool.true_and, Bool.false_and, Option.isNone_none, Option.isNone_some, Option.isSome_some, Option.isSome_none, zbk, zbl, zbm, zbn, zbo, zbp, zbq, zbr, zbs, zbt, zbu, zbv, zbw, zbx, zby, zbz, zca, zcb, zcc, zcd, zce, zcf, zcg, zch, zci, zcj, zck, zcl, zcm, zcn, zco, zcp, zcq, zcr, zcs, zct, zcu, zcv, zcw, zcx, zcy, zcz, zda, zdb, zdc, zdd, zde, zdf, Option.getD_some, Option.getD_none, zet, zeu, zev, zew, zex, zey, zez, zfa, Option.map_some, Option.map_none, Option.bind_some, List.map_cons, List.map_nil, List.cons_append, List.nil_append, ↓reduceIte, Nat.reduceEqDiff, Nat.reduceAdd, decide_true, decide_false, Bool.true_eq_false, Bool.false_eq_true, zdg, zdh, zdi, zdj, zdk, zdl, zdm, zdn, ia22, ld31, zdo, zdp, h0, h3, p1, e1, p6, p3, Int.toNat_natCast, p4, p5, e3, ea]
      rw [fin (by intro y' hy'; have : y' = y := by omega
                  subst this; exact hz)]
      exact finish_tree _ _ _ _ _ _ (.sl (encC (l.take (y + 1))) (l.take (y + 1)).length (.tok p t)) _ _ (by simp only [zfa, ↓reduceIte]) hf rfl
end Go.Ab

/- The reference's own functions on numbers: Cmp, Add, Sub. Conditions: limbs in range, not too many. -/
namespace Go.Ab
open Go.Proofs
set_option maxRecDepth 100000
set_option linter.unusedSimpArgs false

theorem rnorm_hold (n d : Nat) (s : St) (v : AV) (o : List Nat) (h : Hold s v o) (ho : Limbs o) (hn : o.length < n) (hl : o.length ≤ 1000000) (D : Nat) : ∃ s', callA cfg0 (evalFn Tryd.prog cfg0 n (d + 1)) D s 72 [v] = some (encF (val o), s') := by
  rcases h with ⟨rfl, rfl⟩ | ⟨p, t, rfl, hp⟩ | ⟨p, t, rfl, hp⟩
  · exact ⟨s, callA_L1 _ D s 72 .n [] _ (rnorm_eq n d .n [] ho hn hl)⟩
  · have := rnorm_eq n d .l o ho hn hl
    rw [show encL .l o = .sl (encC o) o.length .loose from rfl] at this
    refine ⟨s, ?_⟩
    simp [callA, argsA, argA, givesL, lendsL, givesOf, lendsOf, this, backA, resA, show ∀ f j, cfg0.lin f j = false from fun _ _ => rfl]
  · have := rnorm_eq n d .l o ho hn hl
    rw [show encL .l o = .sl (encC o) o.length .loose from rfl] at this
    have hf : flatR (.tree (encF (val o))) = false := rfl
    refine ⟨frzAt s p, ?_⟩
    have ht : (encC o).take o.length = encC o := List.take_of_length_le (by rw [encC_len]; exact Nat.le_refl _)
    have hle : 0 + o.length * 1 ≤ (encC o).length := by rw [encC_len]; omega
    simp [callA, argsA, argA, cellsAt, hp, ht, encC_len, givesL, lendsL, givesOf, lendsOf, this, hf, backA, resA, show ∀ f j, cfg0.lin f j = false from fun _ _ => rfl]

theorem finish_F (k : Bool) (xs : List Arg) (t : Nat) (env : Env) (s : St) (v : Nat) (os : List (List AV)) (hv : env t = encF v) (ho : outsA s 0 xs = some os) :
    finishP Tryd.prog k xs #[.tmp t] env s = some (.tree (encF v), os) := finish_L _ _ _ _ _ _ _ _ hv ho
theorem cmpZ_1 (x y : Nat) (h : x < y) : cmpZ x y = -1 := by simp only [cmpZ, h, if_true]
theorem cmpZ_2 (x y : Nat) (h : y < x) : cmpZ x y = 1 := by
  have : ¬ x < y := by omega
  simp only [cmpZ, h, this, if_true, if_false]
theorem rcmp_eq (n d : Nat) (b b' : Gk) (l m : List Nat) (hl : Limbs l) (hm : Limbs m) (hn : l.length < n) (hn' : m.length < n) (hll : l.length ≤ 1000000) (hml : m.length ≤ 1000000) :
    evalFn Tryd.prog cfg0 n (d+2) 46 [.tree (encL b l), .tree (encL b' m)] = some (.tree (.int .i64 (cmpZ (val l) (val m))), [[], []]) := by
  rw [evalFn_go _ Tryd.func46 (by unfold Tryd.f46; rfl) (by unfold Tryd.f46; decide) (Nat.le_of_ble_eq_true (by unfold Tryd.f46; rfl)) (by kernel_rfl)]
  have e0 := i_sub Tryd.prog 3 ((max l.length m.length : Nat) : Int) 1 (by omega) (by omega)
  simp only [zaa, zab, zac, zad, zae, zaf, zag, zah, zai, zaj, zak, zal, zam, zan, zao, zap, zaq, zar, zas, zat, zau, zav, zaw, zax, zay, zaz, zba, zbb, zbc, zbd, zbe, zbf, zbg, zbh, zbi, zbj, Nat.reduceBEq, Bool.or_self, Bool.or_false, Bool.or_true, Bool.and_true, Bool.and_false, Bool.true_and, Bool.false_and, Option.isNone_none, Option.isNone_some, Option.isSome_some, Option.isSome_none, zbk, zbl, zbm, zbn, zbo, zbp, zbq, zbr, zbs, zbt, zbu, zbv, zbw, zbx, zby, zbz, zca, zcb, zcc, zcd, zce, zcf, zcg, zch, zci, zcj, zck, zcl, zcm, zcn, zco, zcp, zcq, zcr, zcs, zct, zcu, zcv, zcw, zcx, zcy, zcz, zda, zdb, zdc, zdd, zde, zdf, Option.getD_some, Option.getD_none, zet, zeu, zev, zew, zex, zey, zez, zfa, Option.map_some, Option.map_none, Option.bind_some, List.map_cons, List.map_nil, List.cons_append, List.nil_append, ↓reduceIte, Nat.reduceEqDiff, Nat.reduceAdd, decide_true, decide_false, Bool.true_eq_false, Bool.false_eq_true, env0, List.getElem?_cons_zero, List.getElem?_cons_succ, zdg, zdh, zdi, zdj, zdk, zdl, zdm, zdn, ia22, ld31, zdo, zdp, st0_2, max_eq, e0, den_loop]
  refine loop_ends (X := Nat) (fun k env s => env 0 = encL b l ∧ env 1 = encL b' m ∧ env 5 = .int .i64 ((k : Int) - 1) ∧ s = dead ∧ k ≤ max l.length m.length ∧ Alike l m k) id (fun _ => (.tree (.int .i64 (cmpZ (val l) (val m))), [[], []])) ?_ n (max l.length m.length) _ _ (by simp only [id]; omega) ⟨rfl, rfl, rfl, rfl, Nat.le_refl _, alike_top _ _ _ (by omega) (by omega)⟩
  intro k x hx ih env s ⟨h0, h1, h5, hs, hk, hv⟩
  subst hs
  by_cases hp : x = 0
  · subst hp
    have q1 : ¬ (((0 : Nat) : Int) - 1 ≥ 0) := by omega
    simp only [zaa, zab, zac, zad, zae, zaf, zag, zah, zai, zaj, zak, zal, zam, zan, zao, zap, zaq, zar, zas, zat, zau, zav, zaw, zax, zay, zaz, zba, zbb, zbc, zbd, zbe, zbf, zbg, zbh, zbi, zbj, Nat.reduceBEq, Bool.or_self, Bool.or_false, Bool.or_true, Bool.and_true, Bool.and_false, Bool.true_and, Bool.false_and, Option.isNone_none, Option.isNone_some, Option.isSome_some, Option.isSome_none, zbk, zbl, zbm, zbn, zbo, zbp, zbq, zbr, zbs, zbt, zbu, zbv, zbw, zbx, zby, zbz, zca, zcb, zcc, zcd, zce, zcf, zcg, zch, zci, zcj, zck, zcl, zcm, zcn, zco, zcp, zcq, zcr, zcs, zct, zcu, zcv, zcw, zcx, zcy, zcz, zda, zdb, zdc, zdd, zde, zdf, Option.getD_some, Option.getD_none, zet, zeu, zev, zew, zex, zey, zez, zfa, Option.map_some, Option.map_none, Option.bind_some, List.map_cons, List.map_nil, List.cons_append, List.nil_append, ↓reduceIte, Nat.reduceEqDiff, Nat.reduceAdd, decide_true, decide_false, Bool.true_eq_false, Bool.false_eq_true, zdg, zdh, zdi, zdj, zdk, zdl, zdm, zdn, ia22, ld31, zdo, zdp, h0, h1, h5, q1]
    rw [alike_0 _ _ hv, cmpZ_self]
    exact finish_tree _ _ _ _ _ _ (.int .i64 0) _ _ (by simp only [zfa, ↓reduceIte]) rfl rfl
  · obtain ⟨y, rfl⟩ : ∃ y, x = y + 1 := ⟨x - 1, by omega⟩
    have p2 : ((y + 1 : Nat) : Int) - 1 = (y : Int) := by omega
    rw [p2] at h5
    have p6 : (y : Int) ≥ 0 := by omega
    have e1 := i_sub Tryd.prog 3 (y : Int) 1 (by omega) (by omega)
    have c1 := rat_call n d b l hl y
    have c2 := rat_call n d b' m hm y
    by_cases hz : l.getD y 0 < m.getD y 0
    · have p5 : ((l.getD y 0 : Nat) : Int) < ((m.getD y 0 : Nat) : Int) := by omega
      simp only [zaa, zab, zac, zad, zae, zaf, zag, zah, zai, zaj, zak, zal, zam, zan, zao, zap, zaq, zar, zas, zat, zau, zav, zaw, zax, zay, zaz, zba, zbb, zbc, zbd, zbe, zbf, zbg, zbh, zbi, zbj, Nat.reduceBEq, Bool.or_self, Bool.or_false, Bool.or_true, Bool.and_true, Bool.and_false, Bool.true_and, Bool.false_and, Option.isNone_none, Option.isNone_some, Option.isSome_some, Option.isSome_none, zbk, zbl, zbm, zbn, zbo, zbp, zbq, zbr, zbs, zbt, zbu, zbv, zbw, zbx, zby, zbz, zca, zcb, zcc, zcd, zce, zcf, zcg, zch, zci, zcj, zck, zcl, zcm, zcn, zco, zcp, zcq, zcr, zcs, zct, zcu, zcv, zcw, zcx, zcy, zcz, zda, zdb, zdc, zdd, zde, zdf, Option.getD_some, Option.getD_none, zet, zeu, zev, zew, zex, zey, zez, zfa, Option.map_some, Option.map_none, Option.bind_some, List.map_cons, List.map_nil, List.cons_append, List.nil_append, ↓reduceIte, Nat.reduceEqDiff, Nat.reduceAdd, decide_true, decide_false, Bool.true_eq_false, Bool.false_eq_true, zdg, zdh, zdi, zdj, zdk, zdl, zdm, zdn, ia22, ld31, zdo, zdp, h0, h1, h5, p6, c1, c2, e1, p5]
      rw [alike_ne _ _ hl hm _ hv (by omega), cmpZ_1 _ _ hz]
      exact finish_tree _ _ _ _ _ _ (.int .i64 (-1)) _ _ (by simp only [zfa, ↓reduceIte, Nat.reduceEqDiff]) rfl rfl
    · have p5 : ¬ ((l.getD y 0 : Nat) : Int) < ((m.getD y 0 : Nat) : Int) := by omega
      by_cases hy : m.getD y 0 < l.getD y 0
      · have p7 : ((l.getD y 0 : Nat) : Int) > ((m.getD y 0 : Nat) : Int) := by omega
        simp only [zaa, zab, zac, zad, zae, zaf, zag, zah, zai, zaj, zak, zal, zam, zan, zao, zap, zaq, zar, zas, zat, zau, zav, zaw, zax, zay, zaz, zba, zbb, zbc, zbd, zbe, zbf, zbg, zbh, zbi, zbj, Nat.reduceBEq, Bool.or_self, Bool.or_false, Bool.or_true, Bool.and_true, Bool.and_false, Bool.true_and, Bool.false_and, Option.isNone_none, Option.isNone_some, Option.isSome_some, Option.isSome_none, zbk, zbl, zbm, zbn, zbo, zbp, zbq, zbr, zbs, zbt, zbu, zbv, zbw, zbx, zby, zbz, zca, zcb, zcc, zcd, zce, zcf, zcg, zch, zci, zcj, zck, zcl, zcm, zcn, zco, zcp, zcq, zcr, zcs, zct, zcu, zcv, zcw, zcx, zcy, zcz, zda, zdb, zdc, zdd, zde, zdf, Option.getD_some, Option.getD_none, zet, zeu, zev, zew, zex, zey, zez, zfa, Option.map_some, Option.map_none, Option.bind_some, List.map_cons, List.map_nil, List.cons_append, List.nil_append, ↓reduceIte, Nat.reduceEqDiff, Nat.reduceAdd, decide_true, decide_false, Bool.true_eq_false, Bool.false_eq_true, zdg, zdh, zdi, zdj, zdk, zdl, zdm, zdn, ia22, ld31, zdo, zdp, h0, h1, h5, p6, c1, c2, e1, p5, p7]
        rw [alike_ne _ _ hl hm _ hv (by omega), cmpZ_2 _ _ hy]
        exact finish_tree _ _ _ _ _ _ (.int .i64 1) _ _ (by simp only [zfa, ↓reduceIte, Nat.reduceEqDiff]) rfl rfl
      · have p7 : ¬ ((l.getD y 0 : Nat) : Int) > ((m.getD y 0 : Nat) : Int) := by omega
        simp only [zaa, zab, zac, zad, zae, zaf, zag, zah, zai, zaj, zak, zal, zam, zan, zao, zap, zaq, zar, zas, zat, zau, zav, zaw, zax, zay, zaz, zba, zbb, zbc, zbd, zbe, zbf, zbg, zbh, zbi, zbj, Nat.reduceBEq, Bool.or_self, Bool.or_false, Bool.or_true, Bool.and_true, Bool.and_false, Bool.true_and, Bool.false_and, Option.isNone_none, Option.isNone_some, Option.isSome_some, Option.isSome_none, zbk, zbl, zbm, zbn, zbo, zbp, zbq, zbr, zbs, zbt, zbu, zbv, zbw, zbx, zby, zbz, zca, zcb, zcc, zcd, zce, zcf, zcg, zch, zci, zcj, zck, zcl, zcm, zcn, zco, zcp, zcq, zcr, zcs, zct, zcu, zcv, zcw, zcx, zcy, zcz, zda, zdb, zdc, zdd, zde, zdf, Option.getD_some, Option.getD_none, zet, zeu, zev, zew, zex, zey, zez, zfa, Option.map_some, Option.map_none, Option.bind_some, List.map_cons, List.map_nil, List.cons_append, List.nil_append, ↓reduceIte, Nat.reduceEqDiff, Nat.reduceAdd, decide_true, decide_false, Bool.true_eq_false, Bool.false_eq_true, zdg, zdh, zdi, zdj, zdk, zdl, zdm, zdn, ia22, ld31, zdo, zdp, h0, h1, h5, p6, c1, c2, e1, p5, p7]
        refine ih y _ _ (Nat.lt_succ_self _) rfl ⟨?_, ?_, ?_, rfl, by omega, alike_down _ _ _ hv (by omega)⟩
        · simp only [zfa, ↓reduceIte, Nat.reduceEqDiff, h0]
        · simp only [zfa, ↓reduceIte, Nat.reduceEqDiff, h1]
        · simp only [zfa, ↓reduceIte, Nat.reduceEqDiff]
end Go.Ab

/- The reference's own functions on numbers: Add, Sub. Conditions: limbs in range, not too many. -/
namespace Go.Ab
open Go.Proofs
set_option maxRecDepth 100000
set_option linter.unusedSimpArgs false

theorem radd_eq (n d : Nat) (b b' : Gk) (l m : List Nat) (hl : Limbs l) (hm : Limbs m) (hn : l.length + 2 < n) (hn' : m.length + 2 < n) (hll : l.length ≤ 100000) (hml : m.length ≤ 100000) :
    evalFn Tryd.prog cfg0 n (d+2) 60 [.tree (encL b l), .tree (encL b' m)] = some (.tree (encF (val l + val m)), [[], []]) := by
  rw [evalFn_go _ Tryd.func60 (by unfold Tryd.f60; rfl) (by unfold Tryd.f60; decide) (Nat.le_of_ble_eq_true (by unfold Tryd.f60; rfl)) (by kernel_rfl)]
  have e0 := i_add Tryd.prog 3 ((max l.length m.length : Nat) : Int) 1 (by omega) (by omega)
  rw [show ((max l.length m.length : Nat) : Int) + 1 = ((max l.length m.length + 1 : Nat) : Int) by omega] at e0
  simp only [zaa, zab, zac, zad, zae, zaf, zag, zah, zai, zaj, zak, zal, zam, zan, zao, zap, zaq, zar, zas, zat, zau, zav, zaw, zax, zay, zaz, zba, zbb, zbc, zbd, zbe, zbf, zbg, zbh, zbi, zbj, Nat.reduceBEq, Bool.or_self, Bool.or_false, Bool.or_true, Bool.and_true, Bool.and_false, Bool.true_and, Bool.false_and, Option.isNone_none, Option.isNone_some, Option.isSome_some, Option.isSome_none, zbk, zbl, zbm, zbn, zbo, zbp, zbq, zbr, zbs, zbt, zbu, zbv, zbw, zbx, zby, zbz, zca, zcb, zcc, zcd, zce, zcf, zcg, zch, zci, zcj, zck, zcl, zcm, zcn, zco, zcp, zcq, zcr, zcs, zct, zcu, zcv, zcw, zcx, zcy, zcz, zda, zdb, zdc, zdd, zde, zdf, Option.getD_some, Option.getD_none, zet, zeu, zev, zew, zex, zey, zez, zfa, Option.map_some, Option.map_none, Option.bind_some, List.map_cons, List.map_nil, List.cons_append, List.nil_append, ↓reduceIte, Nat.reduceEqDiff, Nat.reduceAdd, decide_true, decide_false, Bool.true_eq_false, Bool.false_eq_true, env0, List.getElem?_cons_zero, List.getElem?_cons_succ, zdg, zdh, zdi, zdj, zdk, zdl, zdm, zdn, ia22, ld31, zdo, zdp, st0_2, den_loop]
  have hmx := max_eq l.length m.length
  generalize hM : max l.length m.length = M at *
  refine loop_ends (X := Nat × Nat × List Nat) (fun x env s => env 0 = encL b l ∧ env 1 = encL b' m ∧ env 7 = .int .i64 (x.1 : Int) ∧ env 6 = .int .u64 (x.2.1 : Int) ∧ Hold s (env 5) x.2.2 ∧ x.1 ≤ M + 1 ∧ x.2.1 ≤ 1 ∧ x.2.2.length = x.1 ∧ Limbs x.2.2 ∧ val x.2.2 + B ^ x.1 * x.2.1 = val (l.take x.1) + val (m.take x.1)) (fun x => M + 1 - x.1) (fun _ => (.tree (encF (val l + val m)), [[], []])) ?_ n (0, 0, []) _ _ (by simp only; omega) ⟨rfl, rfl, rfl, rfl, hold_nil _, by simp, by simp, rfl, limbs_nil, by simp [val]⟩
  intro k ⟨i, c, o⟩ hx ih env s ⟨h0, h1, h7, h6, h5, hi, hc, hol, hoL, hv⟩
  simp only at h0 h1 h7 h6 h5 hi hc hol hoL hv hx
  by_cases hp : i = M + 1
  · have q1 : ¬ ((i : Int) < ((M + 1 : Nat) : Int)) := by omega
    obtain ⟨s9, e9⟩ := rnorm_hold n d s (env 5) o h5 hoL (by omega) (by omega) 35
    simp only [zaa, zab, zac, zad, zae, zaf, zag, zah, zai, zaj, zak, zal, zam, zan, zao, zap, zaq, zar, zas, zat, zau, zav, zaw, zax, zay, zaz, zba, zbb, zbc, zbd, zbe, zbf, zbg, zbh, zbi, zbj, Nat.reduceBEq, Bool.or_self, Bool.or_false, Bool.or_true, Bool.and_true, Bool.and_false, Bool.true_and, Bool.false_and, Option.isNone_none, Option.isNone_some, Option.isSome_some, Option.isSome_none, zbk, zbl, zbm, zbn, zbo, zbp, zbq, zbr, zbs, zbt, zbu, zbv, zbw, zbx, zby, zbz, zca, zcb, zcc, zcd, zce, zcf, zcg, zch, zci, zcj, zck, zcl, zcm, zcn, zco, zcp, zcq, zcr, zcs, zct, zcu, zcv, zcw, zcx, zcy, zcz, zda, zdb, zdc, zdd, zde, zdf, Option.getD_some, Option.getD_none, zet, zeu, zev, zew, zex, zey, zez, zfa, Option.map_some, Option.map_none, Option.bind_some, List.map_cons, List.map_nil, List.cons_append, List.nil_append, ↓reduceIte, Nat.reduceEqDiff, Nat.reduceAdd, decide_true, decide_false, Bool.true_eq_false, Bool.false_eq_true, zdg, zdh, zdi, zdj, zdk, zdl, zdm, zdn, ia22, ld31, zdo, zdp, h0, h1, h7, hmx, e0, q1, e9]
    rw [add_end l m o i c hl hm (by omega) (by omega) hv]
    exact finish_F _ _ _ _ _ _ _ (by simp only [zfa, ↓reduceIte]) rfl
  · have q1 : (i : Int) < ((M + 1 : Nat) : Int) := by omega
    have c1 := rat_call n d b l hl i
    have c2 := rat_call n d b' m hm i
    have hx1 := getD_lt l hl i
    have hx2 := getD_lt m hm i
    have e1 := u_add Tryd.prog 55 c (l.getD i 0)
    rw [Nat.mod_eq_of_lt (by omega)] at e1
    have e2 := u_add Tryd.prog 55 (c + l.getD i 0) (m.getD i 0)
    rw [Nat.mod_eq_of_lt (by omega), Nat.add_assoc] at e2
    have e3 := u_shr Tryd.prog 55 (c + (l.getD i 0 + m.getD i 0)) .u64 32 (by decide) (by decide)
    rw [show (2 : Nat) ^ (32 : Int).toNat = 4294967296 from rfl] at e3
    have e4 := i_add Tryd.prog 3 (i : Int) 1 (by omega) (by omega)
    have hlim : (c + (l.getD i 0 + m.getD i 0)) % 4294967296 < B := Nat.mod_lt _ (by decide)
    obtain ⟨v', s', ea, hh⟩ := append22 31 s (env 5) o [(c + (l.getD i 0 + m.getD i 0)) % 4294967296] .t h5 (by simp only [List.length_cons, List.length_nil]; omega)
    rw [show encL .t [(c + (l.getD i 0 + m.getD i 0)) % 4294967296] = .sl [.int .u32 (((c + (l.getD i 0 + m.getD i 0)) % 4294967296 : Nat) : Int)] 1 .tight from rfl] at ea
    simp only [zaa, zab, zac, zad, zae, zaf, zag, zah, zai, zaj, zak, zal, zam, zan, zao, zap, zaq, zar, zas, zat, zau, zav, zaw, zax, zay, zaz, zba, zbb, zbc, zbd, zbe, zbf, zbg, zbh, zbi, zbj, Nat.reduceBEq, Bool.or_self, Bool.or_false, Bool.or_true, Bool.and_true, Bool.and_false, Bool.true_and, Bool.false_and, Option.isNone_none, Option.isNone_some, Option.isSome_some, Option.isSome_none, zbk, zbl, zbm, zbn, zbo, zbp, zbq, zbr, zbs, zbt, zbu, zbv, zbw, zbx, zby, zbz, zca, zcb, zcc, zcd, zce, zcf, zcg, zch, zci, zcj, zck, zcl, zcm, zcn, zco, zcp, zcq, zcr, zcs, zct, zcu, zcv, zcw, zcx, zcy, zcz, zda, zdb, zdc, zdd, zde, zdf, Option.getD_some, Option.getD_none, zet, zeu, zev, zew, zex, zey, zez, zfa, Option.map_some, Option.map_none, Option.bind_some, List.map_cons, List.map_nil, List.cons_append, List.nil_append, ↓reduceIte, Nat.reduceEqDiff, Nat.reduceAdd, decide_true, decide_false, Bool.true_eq_false, Bool.false_eq_true, zdg, zdh, zdi, zdj, zdk, zdl, zdm, zdn, ia22, ld31, zdo, zdp, h0, h1, h7, h6, hmx, e0, q1, c1, c2, e1, e2, e3, e4, opA_one, one22_int, ea]
    refine ih (i + 1, (c + (l.getD i 0 + m.getD i 0)) / 4294967296, o ++ [(c + (l.getD i 0 + m.getD i 0)) % 4294967296]) _ _ (by simp only; omega) rfl ⟨?_, ?_, ?_, ?_, ?_, ?_, ?_, ?_, ?_, ?_⟩
    · simp only [zfa, ↓reduceIte, Nat.reduceEqDiff, h0]
    · simp only [zfa, ↓reduceIte, Nat.reduceEqDiff, h1]
    · simp only [zfa, ↓reduceIte, Nat.reduceEqDiff]; rfl
    · simp only [zfa, ↓reduceIte, Nat.reduceEqDiff]
    · simp only [zfa, ↓reduceIte, Nat.reduceEqDiff]; exact hh
    · simp only; omega
    · simp only; omega
    · simp only [List.length_append, List.length_cons, List.length_nil]; omega
    · exact hoL.app (limbs_one hlim)
    · exact add_step l m o i c hol hv
end Go.Ab

/- The reference's Sub. Conditions: limbs in range, not too many. -/
namespace Go.Ab
open Go.Proofs
set_option maxRecDepth 100000
set_option linter.unusedSimpArgs false

theorem val_take_small (b : List Nat) (hb : Limbs b) (k : Nat) (h : val b < B ^ k) : val (b.take k) = val b := by
  have h1 : val b = val (b.take k) + B ^ (b.take k).length * val (b.drop k) := by rw [← val_app, List.take_append_drop]
  rw [val_drop b hb k, Nat.div_eq_of_lt h, Nat.mul_zero, Nat.add_zero] at h1
  exact h1.symm
theorem rsub_end (a b o : List Nat) (c : Nat) (ha : Limbs a) (hb : Limbs b) (ho : Limbs o) (hi : o.length = a.length) (hle : val b ≤ val a) (h : val o + val (b.take a.length) = val (a.take a.length) + B ^ a.length * c) : val o = val a - val b := by
  have h0 := val_lt a ha
  rw [List.take_length, val_take_small b hb _ (by omega)] at h
  have h1 := val_lt o ho
  rw [hi] at h1
  rcases Nat.eq_zero_or_pos c with rfl | hc
  · rw [Nat.mul_zero, Nat.add_zero] at h; omega
  · exfalso
    have : B ^ a.length * 1 ≤ B ^ a.length * c := Nat.mul_le_mul_left _ hc
    omega
/-- A difference as the reference gives it. -/
def encS (x y : Nat) : AV := if x < y then .sl [] 0 .nil else encF (x - y)
theorem encS_sh (x y : Nat) : Sh (encS x y) (digs (x - y)) := by
  unfold encS
  split
  · rw [Nat.sub_eq_zero_of_le (by omega), digs_0]; exact ⟨_, rfl⟩
  · exact sh_L _ _
theorem rcmp_call (n d : Nat) (b b' : Gk) (l m : List Nat) (hl : Limbs l) (hm : Limbs m) (hn : l.length < n) (hn' : m.length < n) (hll : l.length ≤ 1000000) (hml : m.length ≤ 1000000) (D : Nat) (s : St) :
    callA cfg0 (evalFn Tryd.prog cfg0 n (d+2)) D s 46 [encL b l, encL b' m] = some (.int .i64 (cmpZ (val l) (val m)), s) :=
  callA_L2 _ _ _ _ _ _ _ _ _ (rcmp_eq n d b b' l m hl hm hn hn' hll hml)
theorem rsub_eq (n d : Nat) (b b' : Gk) (l m : List Nat) (hl : Limbs l) (hm : Limbs m) (hn : l.length + 2 < n) (hn' : m.length + 2 < n) (hll : l.length ≤ 100000) (hml : m.length ≤ 100000) :
    evalFn Tryd.prog cfg0 n (d+3) 73 [.tree (encL b l), .tree (encL b' m)] = some (.tree (encS (val l) (val m)), [[], []]) := by
  rw [evalFn_go _ Tryd.func73 (by unfold Tryd.f73; rfl) (by unfold Tryd.f73; decide) (Nat.le_of_ble_eq_true (by unfold Tryd.f73; rfl)) (by kernel_rfl)]
  have c0 := rcmp_call n d b b' l m hl hm (by omega) (by omega) (by omega) (by omega)
  by_cases hlt : val l < val m
  · have z1 : cmpZ (val l) (val m) < 0 := (cmpZ_lt _ _).mpr hlt
    simp only [zaa, zab, zac, zad, zae, zaf, zag, zah, zai, zaj, zak, zal, zam, zan, zao, zap, zaq, zar, zas, zat, zau, zav, zaw, zax, zay, zaz, zba, zbb, zbc, zbd, zbe, zbf, zbg, zbh, zbi, zbj, Nat.reduceBEq, Bool.or_self, Bool.or_false, Bool.or_true, Bool.and_true, Bool.and_false, Bool.true_and, Bool.false_and, Option.isNone_none, Option.isNone_some, Option.isSome_some, Option.isSome_none, zbk, zbl, zbm, zbn, zbo, zbp, zbq, zbr, zbs, zbt, zbu, zbv, zbw, zbx, zby, zbz, zca, zcb, zcc, zcd, zce, zcf, zcg, zch, zci, zcj, zck, zcl, zcm, zcn, zco, zcp, zcq, zcr, zcs, zct, zcu, zcv, zcw, zcx, zcy, zcz, zda, zdb, zdc, zdd, zde, zdf, Option.getD_some, Option.getD_none, zet, zeu, zev, zew, zex, zey, zez, zfa, Option.map_some, Option.map_none, Option.bind_some, List.map_cons, List.map_nil, List.cons_append, List.nil_append, ↓reduceIte, Nat.reduceEqDiff, Nat.reduceAdd, decide_true, decide_false, Bool.true_eq_false, Bool.false_eq_true, env0, List.getElem?_cons_zero, List.getElem?_cons_succ, zdg, zdh, zdi, zdj, zdk, zdl, zdm, zdn, ia22, ld31, zdo, zdp, c0, z1]
    rw [encS, if_pos hlt]
    exact finish_tree _ _ _ _ _ _ (.sl [] 0 .nil) _ _ (by simp only [zfa, ↓reduceIte]) rfl rfl
  have z1 : ¬ cmpZ (val l) (val m) < 0 := fun h => hlt ((cmpZ_lt _ _).mp h)
  rw [encS, if_neg hlt]
  simp only [zaa, zab, zac, zad, zae, zaf, zag, zah, zai, zaj, zak, zal, zam, zan, zao, zap, zaq, zar, zas, zat, zau, zav, zaw, zax, zay, zaz, zba, zbb, zbc, zbd, zbe, zbf, zbg, zbh, zbi, zbj, Nat.reduceBEq, Bool.or_self, Bool.or_false, Bool.or_true, Bool.and_true, Bool.and_false, Bool.true_and, Bool.false_and, Option.isNone_none, Option.isNone_some, Option.isSome_some, Option.isSome_none, zbk, zbl, zbm, zbn, zbo, zbp, zbq, zbr, zbs, zbt, zbu, zbv, zbw, zbx, zby, zbz, zca, zcb, zcc, zcd, zce, zcf, zcg, zch, zci, zcj, zck, zcl, zcm, zcn, zco, zcp, zcq, zcr, zcs, zct, zcu, zcv, zcw, zcx, zcy, zcz, zda, zdb, zdc, zdd, zde, zdf, Option.getD_some, Option.getD_none, zet, zeu, zev, zew, zex, zey, zez, zfa, Option.map_some, Option.map_none, Option.bind_some, List.map_cons, List.map_nil, List.cons_append, List.nil_append, ↓reduceIte, Nat.reduceEqDiff, Nat.reduceAdd, decide_true, decide_false, Bool.true_eq_false, Bool.false_eq_true, env0, List.getElem?_cons_zero, List.getElem?_cons_succ, zdg, zdh, zdi, zdj, zdk, zdl, zdm, zdn, ia22, ld31, zdo, zdp, st0_2, c0, z1, den_loop]
  refine loop_ends (X := Nat × Nat × List Nat) (fun x env s => env 0 = encL b l ∧ env 1 = encL b' m ∧ env 7 = .int .i64 (x.1 : Int) ∧ env 6 = .int .u64 (x.2.1 : Int) ∧ Hold s (env 5) x.2.2 ∧ x.1 ≤ l.length ∧ x.2.1 ≤ 1 ∧ x.2.2.length = x.1 ∧ Limbs x.2.2 ∧ val x.2.2 + val (m.take x.1) = val (l.take x.1) + B ^ x.1 * x.2.1) (fun x => l.length - x.1) (fun _ => (.tree (encF (val l - val m)), [[], []])) ?_ n (0, 0, []) _ _ (by simp only; omega) ⟨rfl, rfl, rfl, rfl, hold_nil _, by simp, by simp, rfl, limbs_nil, by simp [val]⟩
  intro k ⟨i, c, o⟩ hx ih env s ⟨h0, h1, h7, h6, h5, hi, hc, hol, hoL, hv⟩
  simp only at h0 h1 h7 h6 h5 hi hc hol hoL hv hx
  by_cases hp : i = l.length
  · subst hp
    have q1 : ¬ ((l.length : Int) < (l.length : Int)) := by omega
    obtain ⟨s9, e9⟩ := rnorm_hold n (d + 1) s (env 5) o h5 hoL (by omega) (by omega) 36
    simp only [zaa, zab, zac, zad, zae, zaf, zag, zah, zai, zaj, zak, zal, zam, zan, zao, zap, zaq, zar, zas, zat, zau, zav, zaw, zax, zay, zaz, zba, zbb, zbc, zbd, zbe, zbf, zbg, zbh, zbi, zbj, Nat.reduceBEq, Bool.or_self, Bool.or_false, Bool.or_true, Bool.and_true, Bool.and_false, Bool.true_and, Bool.false_and, Option.isNone_none, Option.isNone_some, Option.isSome_some, Option.isSome_none, zbk, zbl, zbm, zbn, zbo, zbp, zbq, zbr, zbs, zbt, zbu, zbv, zbw, zbx, zby, zbz, zca, zcb, zcc, zcd, zce, zcf, zcg, zch, zci, zcj, zck, zcl, zcm, zcn, zco, zcp, zcq, zcr, zcs, zct, zcu, zcv, zcw, zcx, zcy, zcz, zda, zdb, zdc, zdd, zde, zdf, Option.getD_some, Option.getD_none, zet, zeu, zev, zew, zex, zey, zez, zfa, Option.map_some, Option.map_none, Option.bind_some, List.map_cons, List.map_nil, List.cons_append, List.nil_append, ↓reduceIte, Nat.reduceEqDiff, Nat.reduceAdd, decide_true, decide_false, Bool.true_eq_false, Bool.false_eq_true, zdg, zdh, zdi, zdj, zdk, zdl, zdm, zdn, ia22, ld31, zdo, zdp, h0, h1, h7, q1, e9]
    rw [rsub_end l m o c hl hm hoL hol (by omega) hv]
    exact finish_F _ _ _ _ _ _ _ (by simp only [zfa, ↓reduceIte]) rfl
  · have q1 : (i : Int) < (l.length : Int) := by omega
    have c1 := rat_call n (d + 1) b l hl i
    have c2 := rat_call n (d + 1) b' m hm i
    have hx1 := getD_lt l hl i
    have hx2 := getD_lt m hm i
    have hst := sub_step l m o i c
    generalize l.getD i 0 = x at *
    generalize m.getD i 0 = y at *
    have e1 := u_sub Tryd.prog 55 x y (by omega)
    have e2 := u_sub Tryd.prog 55 ((x + (18446744073709551616 - y)) % 18446744073709551616) c (by omega)
    obtain ⟨u, hu⟩ : ∃ u, ((x + (18446744073709551616 - y)) % 18446744073709551616 + (18446744073709551616 - c)) % 18446744073709551616 = u := ⟨_, rfl⟩
    rw [hu] at e2
    have e3 := u_shr Tryd.prog 55 u .u64 63 (by decide) (by decide)
    rw [show (2 : Nat) ^ (63 : Int).toNat = 9223372036854775808 from rfl] at e3
    have e4 := i_add Tryd.prog 3 (i : Int) 1 (by omega) (by omega)
    have hlim : u % 4294967296 < B := Nat.mod_lt _ (by decide)
    obtain ⟨v', s', ea, hh⟩ := append22 32 s (env 5) o [u % 4294967296] .t h5 (by simp only [List.length_cons, List.length_nil]; omega)
    rw [show encL .t [u % 4294967296] = .sl [.int .u32 ((u % 4294967296 : Nat) : Int)] 1 .tight from rfl] at ea
    simp only [zaa, zab, zac, zad, zae, zaf, zag, zah, zai, zaj, zak, zal, zam, zan, zao, zap, zaq, zar, zas, zat, zau, zav, zaw, zax, zay, zaz, zba, zbb, zbc, zbd, zbe, zbf, zbg, zbh, zbi, zbj, Nat.reduceBEq, Bool.or_self, Bool.or_false, Bool.or_true, Bool.and_true, Bool.and_false, Bool.true_and, Bool.false_and, Option.isNone_none, Option.isNone_some, Option.isSome_some, Option.isSome_none, zbk, zbl, zbm, zbn, zbo, zbp, zbq, zbr, zbs, zbt, zbu, zbv, zbw, zbx, zby, zbz, zca, zcb, zcc, zcd, zce, zcf, zcg, zch, zci, zcj, zck, zcl, zcm, zcn, zco, zcp, zcq, zcr, zcs, zct, zcu, zcv, zcw, zcx, zcy, zcz, zda, zdb, zdc, zdd, zde, zdf, Option.getD_some, Option.getD_none, zet, zeu, zev, zew, zex, zey, zez, zfa, Option.map_some, Option.map_none, Option.bind_some, List.map_cons, List.map_nil, List.cons_append, List.nil_append, ↓reduceIte, Nat.reduceEqDiff, Nat.reduceAdd, decide_true, decide_false, Bool.true_eq_false, Bool.false_eq_true, zdg, zdh, zdi, zdj, zdk, zdl, zdm, zdn, ia22, ld31, zdo, zdp, h0, h1, h7, h6, q1, c1, c2, e1, e2, e3, e4, opA_one, one22_int, ea]
    refine ih (i + 1, u / 9223372036854775808, o ++ [u % 4294967296]) _ _ (by simp only; omega) rfl ⟨?_, ?_, ?_, ?_, ?_, ?_, ?_, ?_, ?_, ?_⟩
    · simp only [zfa, ↓reduceIte, Nat.reduceEqDiff, h0]
    · simp only [zfa, ↓reduceIte, Nat.reduceEqDiff, h1]
    · simp only [zfa, ↓reduceIte, Nat.reduceEqDiff]; rfl
    · simp only [zfa, ↓reduceIte, Nat.reduceEqDiff]
    · simp only [zfa, ↓reduceIte, Nat.reduceEqDiff]; exact hh
    · simp only; omega
    · simp only; omega
    · simp only [List.length_append, List.length_cons, List.length_nil]; omega
    · exact hoL.app (limbs_one hlim)
    · exact hst _ _ hol hv (borrow x y c u hx1 hx2 hc hu)
end Go.Ab

/- The reference's Mul. Conditions: limbs in range, not too many. -/
namespace Go.Ab
open Go.Proofs
set_option maxRecDepth 100000
set_option linter.unusedSimpArgs false

theorem isTree_encL (b : Gk) (l : List Nat) : isTree (encL b l) = true := by cases b <;> rfl
theorem rat_callq (n d : Nat) (b : Gk) (l : List Nat) (hl : Limbs l) (k : Nat) : callQ (evalFn Tryd.prog cfg0 n (d+1)) 71 [encL b l, .int .i64 (k : Int)] = some (.int .u64 ((l.getD k 0 : Nat) : Int)) := by
  have h := rat_eq n d b l hl k (by omega)
  rw [Int.toNat_natCast] at h
  have e : ([encL b l, AV.int .i64 (k : Int)]).all isTree = true := by simp [isTree_encL]; rfl
  rw [callQ, if_pos e]
  simp only [List.map_cons, List.map_nil, h, Option.bind_some]
theorem rmul_end (a b o o' : List Nat) (ha : Limbs a) (hb : Limbs b) (i c x : Nat) (hx : x = a.getD i 0) (ho : val o = val (a.take i) * val b) (h : val o' + B ^ (i + (b.length + 1)) * c = val o + B ^ i * (x * val (b.take (b.length + 1)))) : val o' = val (a.take (i + 1)) * val b := by
  have e : val o + B ^ i * (x * val (b.take (b.length + 1))) = val (a.take (i + 1)) * val b := by
    rw [List.take_of_length_le (by omega), ho, val_take_succ', Nat.add_mul, hx, Nat.mul_assoc]
  rw [e] at h
  have h1 := mul_lt a b ha hb (i + 1)
  rw [show i + 1 + b.length = i + (b.length + 1) by omega] at h1
  rcases Nat.eq_zero_or_pos c with rfl | hc
  · rw [Nat.mul_zero, Nat.add_zero] at h; exact h
  · exfalso
    have : B ^ (i + (b.length + 1)) * 1 ≤ B ^ (i + (b.length + 1)) * c := Nat.mul_le_mul_left _ hc
    omega

theorem rmul_eq (n d : Nat) (b b' : Gk) (l m : List Nat) (hl : Limbs l) (hm : Limbs m) (hn : l.length + m.length + 3 < n) (hll : l.length ≤ 100000) (hml : m.length ≤ 100000) :
    evalFn Tryd.prog cfg0 n (d+2) 50 [.tree (encL b l), .tree (encL b' m)] = some (.tree (encF (val l * val m)), [[], []]) := by
  rw [evalFn_go _ Tryd.func50 (by unfold Tryd.f50; rfl) (by unfold Tryd.f50; decide) (Nat.le_of_ble_eq_true (by unfold Tryd.f50; rfl)) (by kernel_rfl)]
  have e1 := i_add Tryd.prog 3 (l.length : Int) (m.length : Int) (by omega) (by omega)
  have e1' := i_add Tryd.prog 3 ((l.length : Int) + (m.length : Int)) 1 (by omega) (by omega)
  have e2 := make22 15 dead ((l.length : Int) + (m.length : Int) + 1) (by omega) (by omega)
  rw [show ((l.length : Int) + (m.length : Int) + 1).toNat = l.length + m.length + 1 by omega] at e2
  have e3 : (dead 15).t + 1 = 1 := rfl
  simp only [zaa, zab, zac, zad, zae, zaf, zag, zah, zai, zaj, zak, zal, zam, zan, zao, zap, zaq, zar, zas, zat, zau, zav, zaw, zax, zay, zaz, zba, zbb, zbc, zbd, zbe, zbf, zbg, zbh, zbi, zbj, Nat.reduceBEq, Bool.or_self, Bool.or_false, Bool.or_true, Bool.and_true, Bool.and_false, Bool.true_and, Bool.false_and, Option.isNone_none, Option.isNone_some, Option.isSome_some, Option.isSome_none, zbk, zbl, zbm, zbn, zbo, zbp, zbq, zbr, zbs, zbt, zbu, zbv, zbw, zbx, zby, zbz, zca, zcb, zcc, zcd, zce, zcf, zcg, zch, zci, zcj, zck, zcl, zcm, zcn, zco, zcp, zcq, zcr, zcs, zct, zcu, zcv, zcw, zcx, zcy, zcz, zda, zdb, zdc, zdd, zde, zdf, Option.getD_some, Option.getD_none, zet, zeu, zev, zew, zex, zey, zez, zfa, Option.map_some, Option.map_none, Option.bind_some, List.map_cons, List.map_nil, List.cons_append, List.nil_append, ↓reduceIte, Nat.reduceEqDiff, Nat.reduceAdd, decide_true, decide_false, Bool.true_eq_false, Bool.false_eq_true, env0, List.getElem?_cons_zero, List.getElem?_cons_succ, zdg, zdh, zdi, zdj, zdk, zdl, zdm, zdn, ia22, ld31, zdo, zdp, st0_2, e1, e1', e2, e3, den_loop]
  refine loop_ends (X := Nat × List Nat) (fun x env s => env 0 = encL b l ∧ env 1 = encL b' m ∧ env 5 = .own 15 1 0 (l.length + m.length + 1) 1 ∧ env 6 = .int .i64 (x.1 : Int) ∧ s 15 = ⟨1, .buf (encC x.2)⟩ ∧ x.1 ≤ l.length ∧ x.2.length = l.length + m.length + 1 ∧ Limbs x.2 ∧ val x.2 = val (l.take x.1) * val m) (fun x => l.length - x.1) (fun _ => (.tree (encF (val l * val m)), [[], []])) ?_ n (0, List.replicate (l.length + m.length + 1) 0) _ _ (by simp only; omega) ⟨rfl, rfl, rfl, rfl, rfl, by simp, by simp, ?_, by simp [val, val_rep]⟩
  rotate_left
  · intro x hx; rw [List.eq_of_mem_replicate hx]; decide
  intro k' ⟨i, o⟩ hx ih env s ⟨h0, h1, h5, h6, hs, hi, hol, hoL, hv⟩
  simp only at h0 h1 h5 h6 hs hi hol hoL hv hx
  by_cases hp : i = l.length
  · subst hp
    have q1 : ¬ ((l.length : Int) < (l.length : Int)) := by omega
    obtain ⟨s9, e9⟩ := rnorm_hold n d s (.own 15 1 0 (l.length + m.length + 1) 1) o (.inr (.inr ⟨15, 1, by rw [hol], hs⟩)) hoL (by omega) (by omega) 55
    simp only [zaa, zab, zac, zad, zae, zaf, zag, zah, zai, zaj, zak, zal, zam, zan, zao, zap, zaq, zar, zas, zat, zau, zav, zaw, zax, zay, zaz, zba, zbb, zbc, zbd, zbe, zbf, zbg, zbh, zbi, zbj, Nat.reduceBEq, Bool.or_self, Bool.or_false, Bool.or_true, Bool.and_true, Bool.and_false, Bool.true_and, Bool.false_and, Option.isNone_none, Option.isNone_some, Option.isSome_some, Option.isSome_none, zbk, zbl, zbm, zbn, zbo, zbp, zbq, zbr, zbs, zbt, zbu, zbv, zbw, zbx, zby, zbz, zca, zcb, zcc, zcd, zce, zcf, zcg, zch, zci, zcj, zck, zcl, zcm, zcn, zco, zcp, zcq, zcr, zcs, zct, zcu, zcv, zcw, zcx, zcy, zcz, zda, zdb, zdc, zdd, zde, zdf, Option.getD_some, Option.getD_none, zet, zeu, zev, zew, zex, zey, zez, zfa, Option.map_some, Option.map_none, Option.bind_some, List.map_cons, List.map_nil, List.cons_append, List.nil_append, ↓reduceIte, Nat.reduceEqDiff, Nat.reduceAdd, decide_true, decide_false, Bool.true_eq_false, Bool.false_eq_true, zdg, zdh, zdi, zdj, zdk, zdl, zdm, zdn, ia22, ld31, zdo, zdp, h0, h1, h5, h6, q1, e9]
    rw [hv, List.take_length]
    exact finish_F _ _ _ _ _ _ _ (by simp only [zfa, ↓reduceIte]) rfl
  have q1 : (i : Int) < (l.length : Int) := by omega
  have hx1 := getD_lt l hl i
  have f4 := i_add Tryd.prog 3 (i : Int) 1 (by omega) (by omega)
  have c1 := rat_callq n d b l hl i
  obtain ⟨x, hxe⟩ : ∃ x, x = l.getD i 0 := ⟨_, rfl⟩
  rw [← hxe] at hx1 c1
  simp only [zaa, zab, zac, zad, zae, zaf, zag, zah, zai, zaj, zak, zal, zam, zan, zao, zap, zaq, zar, zas, zat, zau, zav, zaw, zax, zay, zaz, zba, zbb, zbc, zbd, zbe, zbf, zbg, zbh, zbi, zbj, Nat.reduceBEq, Bool.or_self, Bool.or_false, Bool.or_true, Bool.and_true, Bool.and_false, Bool.true_and, Bool.false_and, Option.isNone_none, Option.isNone_some, Option.isSome_some, Option.isSome_none, zbk, zbl, zbm, zbn, zbo, zbp, zbq, zbr, zbs, zbt, zbu, zbv, zbw, zbx, zby, zbz, zca, zcb, zcc, zcd, zce, zcf, zcg, zch, zci, zcj, zck, zcl, zcm, zcn, zco, zcp, zcq, zcr, zcs, zct, zcu, zcv, zcw, zcx, zcy, zcz, zda, zdb, zdc, zdd, zde, zdf, Option.getD_some, Option.getD_none, zet, zeu, zev, zew, zex, zey, zez, zfa, Option.map_some, Option.map_none, Option.bind_some, List.map_cons, List.map_nil, List.cons_append, List.nil_append, ↓reduceIte, Nat.reduceEqDiff, Nat.reduceAdd, decide_true, decide_false, Bool.true_eq_false, Bool.false_eq_true, zdg, zdh, zdi, zdj, zdk, zdl, zdm, zdn, ia22, ld31, zdo, zdp, h0, h1, h5, h6, q1, den_loop]
  refine loop_ends (X := Nat × Nat × List Nat) (fun y env s => env 0 = encL b l ∧ env 1 = encL b' m ∧ env 5 = .own 15 1 0 (l.length + m.length + 1) 1 ∧ env 6 = .int .i64 (i : Int) ∧ env 8 = .int .i64 (y.1 : Int) ∧ env 7 = .int .u64 (y.2.1 : Int) ∧ s 15 = ⟨1, .buf (encC y.2.2)⟩ ∧ y.1 ≤ m.length + 1 ∧ y.2.1 < 4294967296 ∧ y.2.2.length = l.length + m.length + 1 ∧ Limbs y.2.2 ∧ val y.2.2 + B ^ (i + y.1) * y.2.1 = val o + B ^ i * (x * val (m.take y.1))) (fun y => m.length + 1 - y.1) (fun _ => (.tree (encF (val l * val m)), [[], []])) ?_ n (0, 0, o) _ _ (by simp only; omega) ⟨?_, ?_, ?_, ?_, rfl, rfl, hs, by simp, by simp, hol, hoL, by simp [val]⟩
  rotate_left
  · simp only [zfa, ↓reduceIte, Nat.reduceEqDiff, h0]
  · simp only [zfa, ↓reduceIte, Nat.reduceEqDiff, h1]
  · simp only [zfa, ↓reduceIte, Nat.reduceEqDiff, h5]
  · simp only [zfa, ↓reduceIte, Nat.reduceEqDiff, h6]
  clear h0 h1 h5 h6 hs
  intro k2 ⟨k, c, o'⟩ hx' ih' env s ⟨h0, h1, h5, h6, h8, h7, hs, hk, hc, hol', hoL', hv'⟩
  simp only at h0 h1 h5 h6 h8 h7 hs hk hc hol' hoL' hv' hx'
  by_cases hp' : k = m.length + 1
  · subst hp'
    have r1 : ¬ (((m.length + 1 : Nat) : Int) ≤ (m.length : Int)) := by omega
    simp only [zaa, zab, zac, zad, zae, zaf, zag, zah, zai, zaj, zak, zal, zam, zan, zao, zap, zaq, zar, zas, zat, zau, zav, zaw, zax, zay, zaz, zba, zbb, zbc, zbd, zbe, zbf, zbg, zbh, zbi, zbj, Nat.reduceBEq, Bool.or_self, Bool.or_false, Bool.or_true, Bool.and_true, Bool.and_false, Bool.true_and, Bool.false_and, Option.isNone_none, Option.isNone_some, Option.isSome_some, Option.isSome_none, zbk, zbl, zbm, zbn, zbo, zbp, zbq, zbr, zbs, zbt, zbu, zbv, zbw, zbx, zby, zbz, zca, zcb, zcc, zcd, zce, zcf, zcg, zch, zci, zcj, zck, zcl, zcm, zcn, zco, zcp, zcq, zcr, zcs, zct, zcu, zcv, zcw, zcx, zcy, zcz, zda, zdb, zdc, zdd, zde, zdf, Option.getD_some, Option.getD_none, zet, zeu, zev, zew, zex, zey, zez, zfa, Option.map_some, Option.map_none, Option.bind_some, List.map_cons, List.map_nil, List.cons_append, List.nil_append, ↓reduceIte, Nat.reduceEqDiff, Nat.reduceAdd, decide_true, decide_false, Bool.true_eq_false, Bool.false_eq_true, zdg, zdh, zdi, zdj, zdk, zdl, zdm, zdn, ia22, ld31, zdo, zdp, h0, h1, h5, h6, h8, h7, r1, f4]
    refine ih (i + 1, o') _ _ (by simp only; omega) rfl ⟨?_, ?_, ?_, ?_, hs, ?_, hol', hoL', ?_⟩
    · simp only [zfa, ↓reduceIte, Nat.reduceEqDiff, h0]
    · simp only [zfa, ↓reduceIte, Nat.reduceEqDiff, h1]
    · simp only [zfa, ↓reduceIte, Nat.reduceEqDiff, h5]
    · simp only [zfa, ↓reduceIte, Nat.reduceEqDiff]; rfl
    · simp only; omega
    · exact rmul_end l m o o' hl hm i c x hxe hv hv'
  · have r1 : (k : Int) ≤ (m.length : Int) := by omega
    have hy1 := getD_lt m hm k
    have hw1 := getD_lt o' hoL' (i + k)
    have hst := mul_step l m o o' i k c x (by omega) hv'
    obtain ⟨b1, b2, b3⟩ := mul_big x (m.getD k 0) c (o'.getD (i + k) 0) hx1 hy1 hc hw1
    have f5 := i_add Tryd.prog 3 (i : Int) (k : Int) (by omega) (by omega)
    have f6 := i_add Tryd.prog 3 (k : Int) 1 (by omega) (by omega)
    have g1 := ia_own s 15 1 _ (l.length + m.length + 1) .i64 ((i : Int) + (k : Int)) hs (by omega) (by omega)
    rw [show ((i : Int) + (k : Int)).toNat = i + k by omega] at g1
    have g3 := ld_own s 15 1 o' (i + k) hs (by omega)
    have g4 := zdo s (o'.getD (i + k) 0) hw1
    have c2 := rat_callq n d b' m hm k
    have u1 := u_mul Tryd.prog 55 x (m.getD k 0)
    rw [Nat.mod_eq_of_lt b1] at u1
    have u2 := u_add Tryd.prog 55 c (o'.getD (i + k) 0)
    rw [Nat.mod_eq_of_lt (by omega)] at u2
    have u3 := u_add Tryd.prog 55 (c + o'.getD (i + k) 0) (x * m.getD k 0)
    rw [Nat.mod_eq_of_lt (by omega), show c + o'.getD (i + k) 0 + x * m.getD k 0 = c + (x * m.getD k 0 + o'.getD (i + k) 0) by omega] at u3
    generalize c + (x * m.getD k 0 + o'.getD (i + k) 0) = S at *
    have u4 := u_shr Tryd.prog 55 S .u64 32 (by decide) (by decide)
    rw [show (2 : Nat) ^ (32 : Int).toNat = 4294967296 from rfl] at u4
    have g2 := st31 s 15 1 _ (i + k) (S % 4294967296) hs (by omega)
    simp only [zaa, zab, zac, zad, zae, zaf, zag, zah, zai, zaj, zak, zal, zam, zan, zao, zap, zaq, zar, zas, zat, zau, zav, zaw, zax, zay, zaz, zba, zbb, zbc, zbd, zbe, zbf, zbg, zbh, zbi, zbj, Nat.reduceBEq, Bool.or_self, Bool.or_false, Bool.or_true, Bool.and_true, Bool.and_false, Bool.true_and, Bool.false_and, Option.isNone_none, Option.isNone_some, Option.isSome_some, Option.isSome_none, zbk, zbl, zbm, zbn, zbo, zbp, zbq, zbr, zbs, zbt, zbu, zbv, zbw, zbx, zby, zbz, zca, zcb, zcc, zcd, zce, zcf, zcg, zch, zci, zcj, zck, zcl, zcm, zcn, zco, zcp, zcq, zcr, zcs, zct, zcu, zcv, zcw, zcx, zcy, zcz, zda, zdb, zdc, zdd, zde, zdf, Option.getD_some, Option.getD_none, zet, zeu, zev, zew, zex, zey, zez, zfa, Option.map_some, Option.map_none, Option.bind_some, List.map_cons, List.map_nil, List.cons_append, List.nil_append, ↓reduceIte, Nat.reduceEqDiff, Nat.reduceAdd, decide_true, decide_false, Bool.true_eq_false, Bool.false_eq_true, zdg, zdh, zdi, zdj, zdk, zdl, zdm, zdn, ia22, ld31, zdo, zdp, h0, h1, h5, h6, h8, h7, r1, f5, f6, g1, g2, g3, g4, c1, c2, u1, u2, u3, u4]
    refine ih' (k + 1, S / 4294967296, o'.set (i + k) (S % 4294967296)) _ _ (by simp only; omega) rfl ⟨?_, ?_, ?_, ?_, ?_, ?_, ?_, ?_, ?_, ?_, ?_, ?_⟩
    · simp only [zfa, ↓reduceIte, Nat.reduceEqDiff, h0]
    · simp only [zfa, ↓reduceIte, Nat.reduceEqDiff, h1]
    · simp only [zfa, ↓reduceIte, Nat.reduceEqDiff, h5]
    · simp only [zfa, ↓reduceIte, Nat.reduceEqDiff, h6]
    · simp only [zfa, ↓reduceIte, Nat.reduceEqDiff]; rfl
    · simp only [zfa, ↓reduceIte, Nat.reduceEqDiff]
    · rw [upd_self]
    · simp only; omega
    · simp only; omega
    · simp only [List.length_set]; exact hol'
    · exact limbs_set _ hoL' _ _ (Nat.mod_lt _ (by decide))
    · exact hst
end Go.Ab

/- The reference's Shr. Conditions: limbs in range, not too many. -/
namespace Go.Ab
open Go.Proofs
set_option maxRecDepth 100000
set_option linter.unusedSimpArgs false

theorem tk42 : tkOf Tryd.prog 36 = .int .u64 := by kernel_rfl
theorem conv3_42 (s : St) (x : Nat) (h : x < 4294967296) : convA Tryd.prog 3 36 s (.int .i64 (x : Int)) = some (.int .u64 (x : Int)) := by
  simp only [convA, tk3, tk42]
  rw [u64_wrap, Nat.mod_eq_of_lt (by omega)]
theorem getD_drop (l : List Nat) (w i : Nat) : (l.drop w).getD i 0 = l.getD (w + i) 0 := by
  rw [List.getD_eq_getElem?_getD, List.getD_eq_getElem?_getD, List.getElem?_drop]
theorem take_next (L : List Nat) (i : Nat) (h : i < L.length) : L.take (i + 1) = L.take i ++ [L.getD i 0] := by
  rw [List.take_succ_eq_append_getElem h, List.getD_eq_getElem?_getD, List.getElem?_eq_getElem h]; rfl
theorem rshr_eq (n d : Nat) (b : Gk) (l : List Nat) (z : Int) (hl : Limbs l) (hn : l.length + 2 < n) (hll : l.length ≤ 100000) (hz : z ≤ 9223372036854775807) :
    evalFn Tryd.prog cfg0 n (d+2) 78 [.tree (encL b l), .tree (.int .i64 z)] = some (.tree (encF (val l / 2 ^ z.toNat)), [[], []]) := by
  rw [evalFn_go _ Tryd.func78 (by unfold Tryd.f78; rfl) (by unfold Tryd.f78; decide) (Nat.le_of_ble_eq_true (by unfold Tryd.f78; rfl)) (by kernel_rfl)]
  have a2 : foldA max2A (.int .i64 z) [.int .i64 0] = some (.int .i64 ((z.toNat : Nat) : Int)) := by
    simp only [foldA, max2A, Option.bind_some]
    congr 2
    split <;> omega
  have hk : z.toNat ≤ 9223372036854775807 := by omega
  generalize z.toNat = k at *
  have e1 := i_quo Tryd.prog 3 k 32 (by decide) hk
  have e2 := i_rem Tryd.prog 3 k 32 (by decide)
  rw [show ((32 : Nat) : Int) = 32 from rfl] at e1 e2
  have hend := shr_end l hl k
  have hr : k % 32 < 32 := by omega
  have hwk : k / 32 ≤ 9223372036854775807 / 32 := Nat.div_le_div_right hk
  generalize k / 32 = w at *
  generalize k % 32 = r at *
  have e9 := conv3_42 dead r (by omega)
  have e10 : ∀ s, convA Tryd.prog 3 36 s (.int .i64 (r : Int)) = some (.int .u64 (r : Int)) := fun s => conv3_42 s r (by omega)
  have hLl := shrL_len r (l.drop w)
  rw [List.length_drop] at hLl
  have hLL := shrL_limbs r (l.drop w)
  have hget := shrL_get r (l.drop w)
  obtain ⟨L, hL⟩ : ∃ L, L = shrL r (l.drop w) := ⟨_, rfl⟩
  rw [← hL] at hend hLl hLL hget
  simp only [zaa, zab, zac, zad, zae, zaf, zag, zah, zai, zaj, zak, zal, zam, zan, zao, zap, zaq, zar, zas, zat, zau, zav, zaw, zax, zay, zaz, zba, zbb, zbc, zbd, zbe, zbf, zbg, zbh, zbi, zbj, Nat.reduceBEq, Bool.or_self, Bool.or_false, Bool.or_true, Bool.and_true, Bool.and_false, Bool.true_and, Bool.false_and, Option.isNone_none, Option.isNone_some, Option.isSome_some, Option.isSome_none, zbk, zbl, zbm, zbn, zbo, zbp, zbq, zbr, zbs, zbt, zbu, zbv, zbw, zbx, zby, zbz, zca, zcb, zcc, zcd, zce, zcf, zcg, zch, zci, zcj, zck, zcl, zcm, zcn, zco, zcp, zcq, zcr, zcs, zct, zcu, zcv, zcw, zcx, zcy, zcz, zda, zdb, zdc, zdd, zde, zdf, Option.getD_some, Option.getD_none, zet, zeu, zev, zew, zex, zey, zez, zfa, Option.map_some, Option.map_none, Option.bind_some, List.map_cons, List.map_nil, List.cons_append, List.nil_append, ↓reduceIte, Nat.reduceEqDiff, Nat.reduceAdd, decide_true, decide_false, Bool.true_eq_false, Bool.false_eq_true, env0, List.getElem?_cons_zero, List.getElem?_cons_succ, zdg, zdh, zdi, zdj, zdk, zdl, zdm, zdn, ia22, ld31, zdo, zdp, st0_2, a2, e1, den_loop]
  refine loop_ends (X := Nat) (fun i env s => env 5 = .int .i64 (k : Int) ∧ env 0 = encL b l ∧ env 7 = .int .i64 ((w + i : Nat) : Int) ∧ Hold s (env 6) (L.take i) ∧ i ≤ L.length) (fun i => L.length - i) (fun _ => (.tree (encF (val l / 2 ^ k)), [[], []])) ?_ n 0 _ _ (by omega) ⟨rfl, rfl, rfl, hold_nil _, Nat.zero_le _⟩
  intro k' i hx ih env s ⟨h5, h0, h7, h6, hi⟩
  by_cases hp : i = L.length
  · subst hp
    have q1 : ¬ (((w + L.length : Nat) : Int) < (l.length : Int)) := by omega
    rw [List.take_length] at h6
    obtain ⟨s9, e9⟩ := rnorm_hold n d s (env 6) L h6 hLL (by omega) (by omega) 38
    simp only [zaa, zab, zac, zad, zae, zaf, zag, zah, zai, zaj, zak, zal, zam, zan, zao, zap, zaq, zar, zas, zat, zau, zav, zaw, zax, zay, zaz, zba, zbb, zbc, zbd, zbe, zbf, zbg, zbh, zbi, zbj, Nat.reduceBEq, Bool.or_self, Bool.or_false, Bool.or_true, Bool.and_true, Bool.and_false, Bool.true_and, Bool.false_and, Option.isNone_none, Option.isNone_some, Option.isSome_some, Option.isSome_none, zbk, zbl, zbm, zbn, zbo, zbp, zbq, zbr, zbs, zbt, zbu, zbv, zbw, zbx, zby, zbz, zca, zcb, zcc, zcd, zce, zcf, zcg, zch, zci, zcj, zck, zcl, zcm, zcn, zco, zcp, zcq, zcr, zcs, zct, zcu, zcv, zcw, zcx, zcy, zcz, zda, zdb, zdc, zdd, zde, zdf, Option.getD_some, Option.getD_none, zet, zeu, zev, zew, zex, zey, zez, zfa, Option.map_some, Option.map_none, Option.bind_some, List.map_cons, List.map_nil, List.cons_append, List.nil_append, ↓reduceIte, Nat.reduceEqDiff, Nat.reduceAdd, decide_true, decide_false, Bool.true_eq_false, Bool.false_eq_true, zdg, zdh, zdi, zdj, zdk, zdl, zdm, zdn, ia22, ld31, zdo, zdp, h5, h0, h7, q1, e9]
    rw [hend]
    exact finish_F _ _ _ _ _ _ _ (by simp only [zfa, ↓reduceIte]) rfl
  · have q1 : ((w + i : Nat) : Int) < (l.length : Int) := by omega
    have hx1 := getD_lt l hl (w + i)
    have hx2 := getD_lt l hl (w + i + 1)
    have hg := hget i (by rw [List.length_drop]; omega)
    rw [getD_drop, getD_drop, show w + (i + 1) = w + i + 1 by omega] at hg
    have c1 := rat_call n d b l hl (w + i)
    have c2 := rat_call n d b l hl (w + i + 1)
    have f4 := i_add Tryd.prog 3 ((w + i : Nat) : Int) 1 (by omega) (by omega)
    rw [show ((w + i + 1 : Nat) : Int) = ((w + i : Nat) : Int) + 1 by omega] at c2
    have f1 := u_shl Tryd.prog 55 (l.getD (w + i + 1) 0) .u64 32 (by decide) (by decide)
    rw [show (2 : Nat) ^ (32 : Int).toNat = 4294967296 from rfl, Nat.mod_eq_of_lt (by omega)] at f1
    have f2 := u_or Tryd.prog 55 (l.getD (w + i) 0) (l.getD (w + i + 1) 0 * 4294967296) (by omega) (by omega)
    rw [show (4294967296 : Nat) = 2 ^ 32 from rfl, shl_or _ _ 32 (by omega), show (2 : Nat) ^ 32 = 4294967296 from rfl, Nat.mul_comm] at f2
    rw [Nat.mul_comm] at f1
    have f3 := u_shr Tryd.prog 55 (l.getD (w + i) 0 + 4294967296 * l.getD (w + i + 1) 0) .u64 (r : Int) (by omega) (by omega)
    rw [Int.toNat_natCast] at f3
    obtain ⟨v', s', ea, hh⟩ := append22 36 s (env 6) (L.take i) [(l.getD (w + i) 0 + 4294967296 * l.getD (w + i + 1) 0) / 2 ^ r % 4294967296] .t h6 (by simp only [List.length_cons, List.length_nil, List.length_take]; omega)
    rw [← hg, ← take_next L i (by omega)] at hh
    rw [show encL .t [(l.getD (w + i) 0 + 4294967296 * l.getD (w + i + 1) 0) / 2 ^ r % 4294967296] = .sl [.int .u32 (((l.getD (w + i) 0 + 4294967296 * l.getD (w + i + 1) 0) / 2 ^ r % 4294967296 : Nat) : Int)] 1 .tight from rfl] at ea
    simp only [zaa, zab, zac, zad, zae, zaf, zag, zah, zai, zaj, zak, zal, zam, zan, zao, zap, zaq, zar, zas, zat, zau, zav, zaw, zax, zay, zaz, zba, zbb, zbc, zbd, zbe, zbf, zbg, zbh, zbi, zbj, Nat.reduceBEq, Bool.or_self, Bool.or_false, Bool.or_true, Bool.and_true, Bool.and_false, Bool.true_and, Bool.false_and, Option.isNone_none, Option.isNone_some, Option.isSome_some, Option.isSome_none, zbk, zbl, zbm, zbn, zbo, zbp, zbq, zbr, zbs, zbt, zbu, zbv, zbw, zbx, zby, zbz, zca, zcb, zcc, zcd, zce, zcf, zcg, zch, zci, zcj, zck, zcl, zcm, zcn, zco, zcp, zcq, zcr, zcs, zct, zcu, zcv, zcw, zcx, zcy, zcz, zda, zdb, zdc, zdd, zde, zdf, Option.getD_some, Option.getD_none, zet, zeu, zev, zew, zex, zey, zez, zfa, Option.map_some, Option.map_none, Option.bind_some, List.map_cons, List.map_nil, List.cons_append, List.nil_append, ↓reduceIte, Nat.reduceEqDiff, Nat.reduceAdd, decide_true, decide_false, Bool.true_eq_false, Bool.false_eq_true, zdg, zdh, zdi, zdj, zdk, zdl, zdm, zdn, ia22, ld31, zdo, zdp, h5, h0, h7, q1, c1, c2, e2, e10, f1, f2, f3, f4, opA_one, one22_int, ea]
    refine ih (i + 1) _ _ (by omega) rfl ⟨?_, ?_, ?_, ?_, ?_⟩
    · simp only [zfa, ↓reduceIte, Nat.reduceEqDiff, h5]
    · simp only [zfa, ↓reduceIte, Nat.reduceEqDiff, h0]
    · simp only [zfa, ↓reduceIte, Nat.reduceEqDiff]; rfl
    · simp only [zfa, ↓reduceIte, Nat.reduceEqDiff]; exact hh
    · omega
end Go.Ab

/- The reference's Len. Conditions: limbs in range, not too many. -/
namespace Go.Ab
open Go.Proofs
set_option maxRecDepth 100000
set_option linter.unusedSimpArgs false

theorem rnorm_call (n d : Nat) (b : Gk) (o : List Nat) (ho : Limbs o) (hn : o.length < n) (hl : o.length ≤ 1000000) (D : Nat) (s : St) : callA cfg0 (evalFn Tryd.prog cfg0 n (d + 1)) D s 72 [encL b o] = some (encF (val o), s) :=
  callA_L1 _ D s 72 b o _ (rnorm_eq n d b o ho hn hl)
theorem lenF (s : St) (v : Nat) : lenA Tryd.prog 22 s (encF v) = some (.int .i64 ((digs v).length : Int)) := zdg s _ _
theorem rlen_eq (n d : Nat) (b : Gk) (l : List Nat) (hl : Limbs l) (hn : 32 * l.length + 2 < n) (hlen : l.length ≤ 100000) : evalFn Tryd.prog cfg0 n (d+2) 56 [.tree (encL b l)] = some (.tree (.int .i64 ((blen (val l) : Nat) : Int)), [[]]) := by
  rw [evalFn_go _ Tryd.func56 (by unfold Tryd.f56; rfl) (by unfold Tryd.f56; decide) (Nat.le_of_ble_eq_true (by unfold Tryd.f56; rfl)) (by kernel_rfl)]
  have c1 := rnorm_call n d b l hl (by omega) (by omega)
  have hd := digs_len (val l) l.length (val_lt l hl)
  have hvd := val_digs (val l)
  have hdl := limbs_digs (val l)
  obtain ⟨m, hm⟩ : ∃ m, m = digs (val l) := ⟨_, rfl⟩
  have hF : encF (val l) = encL .l m := by rw [encF, hm]
  rw [← hm] at hd hvd hdl
  rw [hF] at c1
  have e1 := i_mul Tryd.prog 3 32 (m.length : Int) (by omega) (by omega)
  rw [show (32 : Int) * (m.length : Int) = ((32 * m.length : Nat) : Int) by omega] at e1
  simp only [zaa, zab, zac, zad, zae, zaf, zag, zah, zai, zaj, zak, zal, zam, zan, zao, zap, zaq, zar, zas, zat, zau, zav, zaw, zax, zay, zaz, zba, zbb, zbc, zbd, zbe, zbf, zbg, zbh, zbi, zbj, Nat.reduceBEq, Bool.or_self, Bool.or_false, Bool.or_true, Bool.and_true, Bool.and_false, Bool.true_and, Bool.false_and, Option.isNone_none, Option.isNone_some, Option.isSome_some, Option.isSome_none, zbk, zbl, zbm, zbn, zbo, zbp, zbq, zbr, zbs, zbt, zbu, zbv, zbw, zbx, zby, zbz, zca, zcb, zcc, zcd, zce, zcf, zcg, zch, zci, zcj, zck, zcl, zcm, zcn, zco, zcp, zcq, zcr, zcs, zct, zcu, zcv, zcw, zcx, zcy, zcz, zda, zdb, zdc, zdd, zde, zdf, Option.getD_some, Option.getD_none, zet, zeu, zev, zew, zex, zey, zez, zfa, Option.map_some, Option.map_none, Option.bind_some, List.map_cons, List.map_nil, List.cons_append, List.nil_append, ↓reduceIte, Nat.reduceEqDiff, Nat.reduceAdd, decide_true, decide_false, Bool.true_eq_false, Bool.false_eq_true, env0, List.getElem?_cons_zero, List.getElem?_cons_succ, zdg, zdh, zdi, zdj, zdk, zdl, zdm, zdn, ia22, ld31, zdo, zdp, st0_1, c1, e1, den_loop]
  refine loop_ends (X := Nat) (fun k env s => env 3 = encL .l m ∧ env 4 = .int .i64 (k : Int) ∧ s = dead ∧ k ≤ 32 * m.length ∧ val l < 2 ^ k) id (fun _ => (.tree (.int .i64 ((blen (val l) : Nat) : Int)), [[]])) ?_ n (32 * m.length) _ _ (by simp only [id]; omega) ⟨rfl, rfl, rfl, Nat.le_refl _, by rw [← hvd, ← B_pow]; exact val_lt m hdl⟩
  intro k x hx ih env s ⟨h3, h4, hs, hk, hv⟩
  subst hs
  by_cases hp : x = 0
  · subst hp
    have q1 : ¬ (((0 : Nat) : Int) > 0) := by omega
    have hv0 : val l = 0 := by rw [Nat.pow_zero] at hv; omega
    simp only [zaa, zab, zac, zad, zae, zaf, zag, zah, zai, zaj, zak, zal, zam, zan, zao, zap, zaq, zar, zas, zat, zau, zav, zaw, zax, zay, zaz, zba, zbb, zbc, zbd, zbe, zbf, zbg, zbh, zbi, zbj, Nat.reduceBEq, Bool.or_self, Bool.or_false, Bool.or_true, Bool.and_true, Bool.and_false, Bool.true_and, Bool.false_and, Option.isNone_none, Option.isNone_some, Option.isSome_some, Option.isSome_none, zbk, zbl, zbm, zbn, zbo, zbp, zbq, zbr, zbs, zbt, zbu, zbv, zbw, zbx, zby, zbz, zca, zcb, zcc, zcd, zce, zcf, zcg, zch, zci, zcj, zck, zcl, zcm, zcn, zco, zcp, zcq, zcr, zcs, zct, zcu, zcv, zcw, zcx, zcy, zcz, zda, zdb, zdc, zdd, zde, zdf, Option.getD_some, Option.getD_none, zet, zeu, zev, zew, zex, zey, zez, zfa, Option.map_some, Option.map_none, Option.bind_some, List.map_cons, List.map_nil, List.cons_append, List.nil_append, ↓reduceIte, Nat.reduceEqDiff, Nat.reduceAdd, decide_true, decide_false, Bool.true_eq_false, Bool.false_eq_true, zdg, zdh, zdi, zdj, zdk, zdl, zdm, zdn, ia22, ld31, zdo, zdp, h3, h4, q1]
    rw [hv0]
    exact finish_tree _ _ _ _ _ _ (.int .i64 ((0 : Nat) : Int)) _ _ (by simp only [zfa, ↓reduceIte]) rfl rfl
  · obtain ⟨y, rfl⟩ : ∃ y, x = y + 1 := ⟨x - 1, by omega⟩
    have p1 : ((y + 1 : Nat) : Int) > 0 := by omega
    have f1 : binA Tryd.prog .sub 3 (.int .i64 ((y + 1 : Nat) : Int)) (.int .i64 1) = some (.int .i64 (y : Int)) := by rw [i_sub _ _ _ _ (by omega) (by omega), show ((y + 1 : Nat) : Int) - 1 = (y : Int) by omega]
    have g1 := i_quo Tryd.prog 3 y 32 (by decide) (by omega)
    have g2 := i_rem Tryd.prog 3 y 32 (by decide)
    rw [show ((32 : Nat) : Int) = 32 from rfl] at g1 g2
    have p3 : ((y / 32 : Nat) : Int) < m.length := by omega
    have p4 : y / 32 < m.length := by omega
    have p7 : (0 : Int) ≤ ((y / 32 : Nat) : Int) := by omega
    have e10 : convA Tryd.prog 3 36 dead (.int .i64 ((y % 32 : Nat) : Int)) = some (.int .u64 ((y % 32 : Nat) : Int)) := conv3_42 dead _ (by omega)
    have hlw := getD_lt m hdl (y / 32)
    have g3 := s_shr Tryd.prog 48 (m.getD (y / 32) 0) .u64 ((y % 32 : Nat) : Int) (by omega) (by omega)
    rw [Int.toNat_natCast] at g3
    have g4 := s_and1 Tryd.prog 48 (m.getD (y / 32) 0 / 2 ^ (y % 32)) (Nat.lt_of_le_of_lt (Nat.div_le_self _ _) hlw)
    have hbl := bit_limb m hdl y
    rw [hvd] at hbl
    rw [hbl] at g4
    rw [pow1] at hv
    have h2p := Nat.two_pow_pos y
    have hq : val l / 2 ^ y < 2 := by rw [Nat.div_lt_iff_lt_mul h2p]; exact hv
    by_cases hz : val l / 2 ^ y % 2 = 0
    · have p5 : (((val l / 2 ^ y % 2 : Nat) : Int) == 0) = true := by rw [hz]; rfl
      simp only [zaa, zab, zac, zad, zae, zaf, zag, zah, zai, zaj, zak, zal, zam, zan, zao, zap, zaq, zar, zas, zat, zau, zav, zaw, zax, zay, zaz, zba, zbb, zbc, zbd, zbe, zbf, zbg, zbh, zbi, zbj, Nat.reduceBEq, Bool.or_self, Bool.or_false, Bool.or_true, Bool.and_true, Bool.and_false, Bool.true_and, Bool.false_and, Option.isNone_none, Option.isNone_some, Option.isSome_some, Option.isSome_none, zbk, zbl, zbm, zbn, zbo, zbp, zbq, zbr, zbs, zbt, zbu, zbv, zbw, zbx, zby, zbz, zca, zcb, zcc, zcd, zce, zcf, zcg, zch, zci, zcj, zck, zcl, zcm, zcn, zco, zcp, zcq, zcr, zcs, zct, zcu, zcv, zcw, zcx, zcy, zcz, zda, zdb, zdc, zdd, zde, zdf, Option.getD_some, Option.getD_none, zet, zeu, zev, zew, zex, zey, zez, zfa, Option.map_some, Option.map_none, Option.bind_some, List.map_cons, List.map_nil, List.cons_append, List.nil_append, ↓reduceIte, Nat.reduceEqDiff, Nat.reduceAdd, decide_true, decide_false, Bool.true_eq_false, Bool.false_eq_true, zdg, zdh, zdi, zdj, zdk, zdl, zdm, zdn, ia22, ld31, zdo, zdp, h3, h4, p1, f1, g1, g2, p7, p3, p4, Int.toNat_natCast, e10, g3, g4, p5]
      refine ih y _ _ (Nat.lt_succ_self _) rfl ⟨?_, ?_, rfl, by omega, ?_⟩
      · simp only [zfa, ↓reduceIte, Nat.reduceEqDiff, h3]
      · simp only [zfa, ↓reduceIte, Nat.reduceEqDiff]
      · have h0 : val l / 2 ^ y = 0 := by
          clear g4 hbl
          generalize val l / 2 ^ y = qq at *
          omega
        rcases Nat.lt_or_ge (val l) (2 ^ y) with h | h
        · exact h
        · have := Nat.div_pos h h2p; omega
    · have p5 : (((val l / 2 ^ y % 2 : Nat) : Int) == 0) = false := by
        rw [beq_eq_false_iff_ne]
        clear g4 hbl
        generalize val l / 2 ^ y % 2 = bit at *
        omega
      simp only [zaa, zab, zac, zad, zae, zaf, zag, zah, zai, zaj, zak, zal, zam, zan, zao, zap, zaq, zar, zas, zat, zau, zav, zaw, zax, zay, zaz, zba, zbb, zbc, zbd, zbe, zbf, zbg, zbh, zbi, zbj, Nat.reduceBEq, Bool.or_self, Bool.or_false, Bool.or_true, Bool.and_true, Bool.and_false, Bool.true_and, Bool.false_and, Option.isNone_none, Option.isNone_some, Option.isSome_some, Option.isSome_none, zbk, zbl, zbm, zbn, zbo, zbp, zbq, zbr, zbs, zbt, zbu, zbv, zbw, zbx, zby, zbz, zca, zcb, zcc, zcd, zce, zcf, zcg, zch, zci, zcj, zck, zcl, zcm, zcn, zco, zcp, zcq, zcr, zcs, zct, zcu, zcv, zcw, zcx, zcy, zcz, zda, zdb, zdc, zdd, zde, zdf, Option.getD_some, Option.getD_none, zet, zeu, zev, zew, zex, zey, zez, zfa, Option.map_some, Option.map_none, Option.bind_some, List.map_cons, List.map_nil, List.cons_append, List.nil_append, ↓reduceIte, Nat.reduceEqDiff, Nat.reduceAdd, decide_true, decide_false, Bool.true_eq_false, Bool.false_eq_true, zdg, zdh, zdi, zdj, zdk, zdl, zdm, zdn, ia22, ld31, zdo, zdp, h3, h4, p1, f1, g1, g2, p7, p3, p4, Int.toNat_natCast, e10, g3, g4, p5]
      have hge : 2 ^ y ≤ val l := by
        rcases Nat.lt_or_ge (val l) (2 ^ y) with h | h
        · rw [Nat.div_eq_of_lt h] at hz; exact absurd rfl hz
        · exact h
      rw [blen_of (val l) y hge (by rw [pow1]; exact hv)]
      exact finish_tree _ _ _ _ _ _ (.int .i64 ((y + 1 : Nat) : Int)) _ _ (by simp only [zfa, ↓reduceIte]) rfl rfl
end Go.Ab

/- The reference's Shl. Conditions: limbs in range, not too many. -/
namespace Go.Ab
open Go.Proofs
set_option maxRecDepth 100000
set_option linter.unusedSimpArgs false

theorem low_or (x c r : Nat) (hr : r < 32) (hc : c < 2 ^ r) : (c ||| x * 2 ^ r % 4294967296) = c + x * 2 ^ r % 4294967296 := by
  have e : x * 2 ^ r % 4294967296 = (x % 2 ^ (32 - r)) * 2 ^ r := by
    rw [show (4294967296 : Nat) = 2 ^ (32 - r) * 2 ^ r by rw [← Nat.pow_add, show 32 - r + r = 32 by omega], Nat.mul_mod_mul_right]
  rw [e]; exact shl_or _ _ _ hc
theorem digit_small (o : List Nat) (h : Limbs o) (j C : Nat) (hv : val o < B ^ j * C) : o.getD j 0 < C := by
  rw [← digit o h j]
  have : val o / B ^ j < C := by rw [Nat.div_lt_iff_lt_mul (Nat.pow_pos (by decide)), Nat.mul_comm]; exact hv
  exact Nat.lt_of_le_of_lt (Nat.mod_le _ _) this
theorem rshl_lt (a : List Nat) (ha : Limbs a) (w r i : Nat) : B ^ w * (2 ^ r * val (a.take i)) < B ^ (i + w) * 2 ^ r := by
  have h := val_take_lt a ha i
  rw [Nat.add_comm i w, Nat.pow_add, Nat.mul_assoc, Nat.mul_comm (B ^ i) (2 ^ r)]
  exact Nat.mul_lt_mul_of_pos_left (Nat.mul_lt_mul_of_pos_left h (Nat.two_pow_pos r)) (Nat.pow_pos (by decide))
theorem rshl_step (a o : List Nat) (w r i : Nat) (hl : i + w + 1 < o.length) (h0 : o.getD (i + w + 1) 0 = 0) (h : val o = B ^ w * (2 ^ r * val (a.take i))) :
    val ((o.set (i + w) (o.getD (i + w) 0 + a.getD i 0 * 2 ^ r % 4294967296)).set (i + w + 1) (a.getD i 0 * 2 ^ r / 4294967296)) = B ^ w * (2 ^ r * val (a.take (i + 1))) := by
  have h1 := val_set o (i + w) (o.getD (i + w) 0 + a.getD i 0 * 2 ^ r % 4294967296) (by omega)
  have h2 := val_set (o.set (i + w) (o.getD (i + w) 0 + a.getD i 0 * 2 ^ r % 4294967296)) (i + w + 1) (a.getD i 0 * 2 ^ r / 4294967296) (by rw [List.length_set]; exact hl)
  rw [getD_set_ne _ _ _ _ (by omega), h0, Nat.mul_zero, Nat.add_zero] at h2
  rw [Nat.mul_add] at h1
  rw [h2, val_take_succ']
  generalize a.getD i 0 = x at *
  have e : B ^ (i + w) * (x * 2 ^ r % 4294967296) + B ^ (i + w + 1) * (x * 2 ^ r / 4294967296) = B ^ (i + w) * (x * 2 ^ r) := by
    rw [Nat.pow_succ, Nat.mul_assoc, ← Nat.mul_add]
    have : x * 2 ^ r % 4294967296 + B * (x * 2 ^ r / 4294967296) = x * 2 ^ r := Nat.mod_add_div _ _
    rw [this]
  have e2 : B ^ w * (2 ^ r * (val (a.take i) + B ^ i * x)) = B ^ w * (2 ^ r * val (a.take i)) + B ^ (i + w) * (x * 2 ^ r) := by
    rw [Nat.mul_add, Nat.mul_add, Nat.add_comm i w, Nat.pow_add]
    congr 1
    rw [Nat.mul_assoc]
    congr 1
    rw [Nat.mul_comm (2 ^ r), Nat.mul_assoc]
  omega
theorem rshl_eq (n d : Nat) (b : Gk) (l : List Nat) (z : Int) (hl : Limbs l) (hn : l.length + 200 < n) (hll : l.length ≤ 100000) :
    evalFn Tryd.prog cfg0 n (d+2) 74 [.tree (encL b l), .tree (.int .i64 z)] = some (.tree (encF (val l * 2 ^ shn z)), [[], []]) := by
  rw [evalFn_go _ Tryd.func74 (by unfold Tryd.f74; rfl) (by unfold Tryd.f74; decide) (Nat.le_of_ble_eq_true (by unfold Tryd.f74; rfl)) (by kernel_rfl)]
  have a1 : foldA max2A (.int .i64 z) [.int .i64 0] = some (.int .i64 (if 0 > z then 0 else z)) := by
    simp only [foldA, max2A, Option.bind_some]
  have a2 : foldA min2A (.int .i64 (if 0 > z then 0 else z)) [.int .i64 4096] = some (.int .i64 ((shn z : Nat) : Int)) := by
    simp only [foldA, min2A, Option.bind_some, shn]
    congr 2
    split <;> split <;> (try split) <;> omega
  have hk : shn z ≤ 4096 := by simp only [shn]; split <;> omega
  generalize shn z = k at *
  have e1 := i_quo Tryd.prog 3 k 32 (by decide) (by omega)
  have e2 := i_rem Tryd.prog 3 k 32 (by decide)
  rw [show ((32 : Nat) : Int) = 32 from rfl] at e1 e2
  have hkw : k = 32 * (k / 32) + k % 32 := by omega
  have hw : k / 32 ≤ 128 := by omega
  have hr : k % 32 < 32 := by omega
  generalize k / 32 = w at *
  generalize k % 32 = r at *
  have e3 := i_add Tryd.prog 3 (l.length : Int) (w : Int) (by omega) (by omega)
  have e4 := i_add Tryd.prog 3 ((l.length : Int) + (w : Int)) 1 (by omega) (by omega)
  have e5 := make22 18 dead ((l.length : Int) + (w : Int) + 1) (by omega) (by omega)
  rw [show ((l.length : Int) + (w : Int) + 1).toNat = l.length + w + 1 by omega] at e5
  have e6 : (dead 18).t + 1 = 1 := rfl
  have e10 : ∀ s, convA Tryd.prog 3 36 s (.int .i64 (r : Int)) = some (.int .u64 (r : Int)) := fun s => conv3_42 s r (by omega)
  simp only [zaa, zab, zac, zad, zae, zaf, zag, zah, zai, zaj, zak, zal, zam, zan, zao, zap, zaq, zar, zas, zat, zau, zav, zaw, zax, zay, zaz, zba, zbb, zbc, zbd, zbe, zbf, zbg, zbh, zbi, zbj, Nat.reduceBEq, Bool.or_self, Bool.or_false, Bool.or_true, Bool.and_true, Bool.and_false, Bool.true_and, Bool.false_and, Option.isNone_none, Option.isNone_some, Option.isSome_some, Option.isSome_none, zbk, zbl, zbm, zbn, zbo, zbp, zbq, zbr, zbs, zbt, zbu, zbv, zbw, zbx, zby, zbz, zca, zcb, zcc, zcd, zce, zcf, zcg, zch, zci, zcj, zck, zcl, zcm, zcn, zco, zcp, zcq, zcr, zcs, zct, zcu, zcv, zcw, zcx, zcy, zcz, zda, zdb, zdc, zdd, zde, zdf, Option.getD_some, Option.getD_none, zet, zeu, zev, zew, zex, zey, zez, zfa, Option.map_some, Option.map_none, Option.bind_some, List.map_cons, List.map_nil, List.cons_append, List.nil_append, ↓reduceIte, Nat.reduceEqDiff, Nat.reduceAdd, decide_true, decide_false, Bool.true_eq_false, Bool.false_eq_true, env0, List.getElem?_cons_zero, List.getElem?_cons_succ, zdg, zdh, zdi, zdj, zdk, zdl, zdm, zdn, ia22, ld31, zdo, zdp, st0_2, a1, a2, e1, e3, e4, e5, e6, den_loop]
  refine loop_ends (X := Nat × List Nat) (fun x env s => env 0 = encL b l ∧ env 5 = .int .i64 (k : Int) ∧ env 6 = .own 18 1 0 (l.length + w + 1) 1 ∧ env 7 = .int .i64 (x.1 : Int) ∧ s 18 = ⟨1, .buf (encC x.2)⟩ ∧ x.1 ≤ l.length ∧ x.2.length = l.length + w + 1 ∧ Limbs x.2 ∧ val x.2 = B ^ w * (2 ^ r * val (l.take x.1))) (fun x => l.length - x.1) (fun _ => (.tree (encF (val l * 2 ^ k)), [[], []])) ?_ n (0, List.replicate (l.length + w + 1) 0) _ _ (by simp only; omega) ⟨rfl, rfl, rfl, rfl, rfl, by simp, by simp, ?_, by simp [val, val_rep]⟩
  rotate_left
  · intro x hx; rw [List.eq_of_mem_replicate hx]; decide
  intro k' ⟨i, o⟩ hx ih env s ⟨h0, h5, h6, h7, hs, hi, hol, hoL, hv⟩
  simp only at h0 h5 h6 h7 hs hi hol hoL hv hx
  by_cases hp : i = l.length
  · subst hp
    have q1 : ¬ ((l.length : Int) < (l.length : Int)) := by omega
    obtain ⟨s9, e9⟩ := rnorm_hold n d s (.own 18 1 0 (l.length + w + 1) 1) o (.inr (.inr ⟨18, 1, by rw [hol], hs⟩)) hoL (by omega) (by omega) 70
    have hfin : val o = val l * 2 ^ k := by
      rw [hv, List.take_length, hkw, Nat.pow_add, ← B_pow, Nat.mul_comm (val l), Nat.mul_assoc]
    simp only [zaa, zab, zac, zad, zae, zaf, zag, zah, zai, zaj, zak, zal, zam, zan, zao, zap, zaq, zar, zas, zat, zau, zav, zaw, zax, zay, zaz, zba, zbb, zbc, zbd, zbe, zbf, zbg, zbh, zbi, zbj, Nat.reduceBEq, Bool.or_self, Bool.or_false, Bool.or_true, Bool.and_true, Bool.and_false, Bool.true_and, Bool.false_and, Option.isNone_none, Option.isNone_some, Option.isSome_some, Option.isSome_none, zbk, zbl, zbm, zbn, zbo, zbp, zbq, zbr, zbs, zbt, zbu, zbv, zbw, zbx, zby, zbz, zca, zcb, zcc, zcd, zce, zcf, zcg, zch, zci, zcj, zck, zcl, zcm, zcn, zco, zcp, zcq, zcr, zcs, zct, zcu, zcv, zcw, zcx, zcy, zcz, zda, zdb, zdc, zdd, zde, zdf, Option.getD_some, Option.getD_none, zet, zeu, zev, zew, zex, zey, zez, zfa, Option.map_some, Option.map_none, Option.bind_some, List.map_cons, List.map_nil, List.cons_append, List.nil_append, ↓reduceIte, Nat.reduceEqDiff, Nat.reduceAdd, decide_true, decide_false, Bool.true_eq_false, Bool.false_eq_true, zdg, zdh, zdi, zdj, zdk, zdl, zdm, zdn, ia22, ld31, zdo, zdp, h0, h5, h6, h7, q1, e9]
    rw [hfin]
    exact finish_F _ _ _ _ _ _ _ (by simp only [zfa, ↓reduceIte]) rfl
  · have q1 : (i : Int) < (l.length : Int) := by omega
    have q2 : (0 : Int) ≤ (i : Int) := by omega
    have q3 : i < l.length := by omega
    have hx1 := getD_lt l hl i
    have hsm := digit_small o hoL (i + w) (2 ^ r) (by rw [hv]; exact rshl_lt l hl w r i)
    have hz0 : o.getD (i + w + 1) 0 = 0 := by
      refine digit_0 o hoL _ ?_
      rw [hv]
      refine Nat.lt_of_lt_of_le (rshl_lt l hl w r i) ?_
      rw [Nat.pow_succ]
      exact Nat.mul_le_mul_left _ (show 2 ^ r ≤ 2 ^ 32 from Nat.pow_le_pow_right (by decide) (by omega))
    have hst := rshl_step l o w r i (by omega) hz0 hv
    obtain ⟨hS, hC⟩ := shl_lt (l.getD i 0) 0 r hx1 hr (Nat.two_pow_pos r)
    rw [Nat.zero_add] at hS hC
    have hor := low_or (l.getD i 0) (o.getD (i + w) 0) r hr hsm
    have hlow := getD_lt o hoL (i + w)
    have f1 := u_shl Tryd.prog 55 (l.getD i 0) .u64 (r : Int) (by omega) (by omega)
    rw [Int.toNat_natCast, Nat.mod_eq_of_lt (by omega)] at f1
    generalize hgS : l.getD i 0 * 2 ^ r = S at *
    have hSB : S / 4294967296 < 4294967296 := by omega
    have f2 := s_or Tryd.prog 48 (o.getD (i + w) 0) (S % 4294967296) hlow (Nat.mod_lt _ (by decide))
    have hol2 : (o.getD (i + w) 0 ||| S % 4294967296) < 2 ^ 32 := Nat.or_lt_two_pow hlow (Nat.mod_lt _ (by decide))
    rw [hor] at f2 hol2
    have f3 := u_shr Tryd.prog 55 S .u64 32 (by decide) (by decide)
    rw [show (2 : Nat) ^ (32 : Int).toNat = 4294967296 from rfl] at f3
    have f4 := i_add Tryd.prog 3 (i : Int) 1 (by omega) (by omega)
    have f5 := i_add Tryd.prog 3 (i : Int) (w : Int) (by omega) (by omega)
    have f6 := i_add Tryd.prog 3 ((i : Int) + (w : Int)) 1 (by omega) (by omega)
    have g1 := ia_own s 18 1 _ (l.length + w + 1) .i64 ((i : Int) + (w : Int)) hs (by omega) (by omega)
    rw [show ((i : Int) + (w : Int)).toNat = i + w by omega] at g1
    have g2 := ld_own s 18 1 o (i + w) hs (by omega)
    have g3 := st31 s 18 1 _ (i + w) (o.getD (i + w) 0 + S % 4294967296) hs (by omega)
    have hs2 : (upd s 18 ⟨1, .buf (encC (o.set (i + w) (o.getD (i + w) 0 + S % 4294967296)))⟩) 18 = ⟨1, .buf (encC (o.set (i + w) (o.getD (i + w) 0 + S % 4294967296)))⟩ := upd_self _ _ _
    have g4 := ia_own _ 18 1 _ (l.length + w + 1) .i64 ((i : Int) + (w : Int) + 1) hs2 (by omega) (by omega)
    rw [show ((i : Int) + (w : Int) + 1).toNat = i + w + 1 by omega] at g4
    have g5 := ld_own _ 18 1 _ (i + w + 1) hs2 (by rw [List.length_set]; omega)
    rw [getD_set_ne _ _ _ _ (by omega), hz0] at g5
    have g6 := st31 _ 18 1 _ (i + w + 1) (S / 4294967296) hs2 (by rw [List.length_set]; omega)
    have f7 := s_or Tryd.prog 48 0 (S / 4294967296 % 4294967296) (by decide) (Nat.mod_lt _ (by decide))
    rw [Nat.zero_or, Nat.mod_eq_of_lt hSB] at f7
    simp only [zaa, zab, zac, zad, zae, zaf, zag, zah, zai, zaj, zak, zal, zam, zan, zao, zap, zaq, zar, zas, zat, zau, zav, zaw, zax, zay, zaz, zba, zbb, zbc, zbd, zbe, zbf, zbg, zbh, zbi, zbj, Nat.reduceBEq, Bool.or_self, Bool.or_false, Bool.or_true, Bool.and_true, Bool.and_false, Bool.true_and, Bool.false_and, Option.isNone_none, Option.isNone_some, Option.isSome_some, Option.isSome_none, zbk, zbl, zbm, zbn, zbo, zbp, zbq, zbr, zbs, zbt, zbu, zbv, zbw, zbx, zby, zbz, zca, zcb, zcc, zcd, zce, zcf, zcg, zch, zci, zcj, zck, zcl, zcm, zcn, zco, zcp, zcq, zcr, zcs, zct, zcu, zcv, zcw, zcx, zcy, zcz, zda, zdb, zdc, zdd, zde, zdf, Option.getD_some, Option.getD_none, zet, zeu, zev, zew, zex, zey, zez, zfa, Option.map_some, Option.map_none, Option.bind_some, List.map_cons, List.map_nil, List.cons_append, List.nil_append, ↓reduceIte, Nat.reduceEqDiff, Nat.reduceAdd, decide_true, decide_false, Bool.true_eq_false, Bool.false_eq_true, zdg, zdh, zdi, zdj, zdk, zdl, zdm, zdn, ia22, ld31, zdo, zdp, h0, h5, h6, h7, q1, q2, q3, Int.toNat_natCast, hx1, e1, e2, e10, f1, f2, f3, f4, f5, f6, g1, g2, g3, g4, g5, g6, Nat.mod_eq_of_lt hSB, f7]
    refine ih (i + 1, (o.set (i + w) (o.getD (i + w) 0 + S % 4294967296)).set (i + w + 1) (S / 4294967296)) _ _ (by simp only; omega) rfl ⟨?_, ?_, ?_, ?_, ?_, ?_, ?_, ?_, hst⟩
    · simp only [zfa, ↓reduceIte, Nat.reduceEqDiff, h0]
    · simp only [zfa, ↓reduceIte, Nat.reduceEqDiff, h5]
    · simp only [zfa, ↓reduceIte, Nat.reduceEqDiff, h6]
    · simp only [zfa, ↓reduceIte, Nat.reduceEqDiff]; rfl
    · rw [upd_self]
    · simp only; omega
    · simp only [List.length_set]; exact hol
    · exact limbs_set _ (limbs_set _ hoL _ _ hol2) _ _ hSB
end Go.Ab

/- The reference's Div. Conditions: limbs in range, not too many. -/
namespace Go.Ab
open Go.Proofs
set_option maxRecDepth 100000
set_option linter.unusedSimpArgs false

theorem num_F (v k : Nat) (hk : k ≤ 1000) (h : v < B ^ k) : Num (encF v) v := ⟨_, sh_L _ _, limbs_digs v, Nat.le_trans (digs_len v k h) hk, val_digs v⟩
section
variable (n d : Nat) (hn : 100000 ≤ n) (D : Nat) (s : St)
include hn
theorem rcNorm {w : AV} {v : Nat} (h : Num w v) : callA cfg0 (evalFn Tryd.prog cfg0 n (d+1)) D s 72 [w] = some (encF v, s) := by
  obtain ⟨l, hs, hl, hk, rfl⟩ := h
  exact callA_S1 _ D s 72 hs _ fun b => rnorm_eq n d b l hl (by omega) (by omega)
theorem rcCmp {w w' : AV} {v v' : Nat} (h : Num w v) (h' : Num w' v') : callA cfg0 (evalFn Tryd.prog cfg0 n (d+2)) D s 46 [w, w'] = some (.int .i64 (cmpZ v v'), s) := by
  obtain ⟨l, hs, hl, hk, rfl⟩ := h
  obtain ⟨l', hs', hl', hk', rfl⟩ := h'
  exact callA_S2 _ D s 46 hs hs' _ fun b b' => rcmp_eq n d b b' l l' hl hl' (by omega) (by omega) (by omega) (by omega)
theorem rcAdd {w w' : AV} {v v' : Nat} (h : Num w v) (h' : Num w' v') : callA cfg0 (evalFn Tryd.prog cfg0 n (d+2)) D s 60 [w, w'] = some (encF (v + v'), s) := by
  obtain ⟨l, hs, hl, hk, rfl⟩ := h
  obtain ⟨l', hs', hl', hk', rfl⟩ := h'
  exact callA_S2 _ _ _ _ hs hs' _ fun b b' => radd_eq n d b b' l l' hl hl' (by omega) (by omega) (by omega) (by omega)
theorem rcSub {w w' : AV} {v v' : Nat} (h : Num w v) (h' : Num w' v') : callA cfg0 (evalFn Tryd.prog cfg0 n (d+3)) D s 73 [w, w'] = some (encS v v', s) := by
  obtain ⟨l, hs, hl, hk, rfl⟩ := h
  obtain ⟨l', hs', hl', hk', rfl⟩ := h'
  exact callA_S2 _ _ _ _ hs hs' _ fun b b' => rsub_eq n d b b' l l' hl hl' (by omega) (by omega) (by omega) (by omega)
theorem rcMul {w w' : AV} {v v' : Nat} (h : Num w v) (h' : Num w' v') : callA cfg0 (evalFn Tryd.prog cfg0 n (d+2)) D s 50 [w, w'] = some (encF (v * v'), s) := by
  obtain ⟨l, hs, hl, hk, rfl⟩ := h
  obtain ⟨l', hs', hl', hk', rfl⟩ := h'
  exact callA_S2 _ _ _ _ hs hs' _ fun b b' => rmul_eq n d b b' l l' hl hl' (by omega) (by omega) (by omega)
theorem rcShl {w : AV} {v : Nat} (h : Num w v) (z : Int) : callA cfg0 (evalFn Tryd.prog cfg0 n (d+2)) D s 74 [w, .int .i64 z] = some (encF (v * 2 ^ shn z), s) := by
  obtain ⟨l, hs, hl, hk, rfl⟩ := h
  exact callA_Si _ _ _ _ hs _ _ _ fun b => rshl_eq n d b l z hl (by omega) (by omega)
theorem rcShr {w : AV} {v : Nat} (h : Num w v) (z : Int) (hz : z ≤ 9223372036854775807) : callA cfg0 (evalFn Tryd.prog cfg0 n (d+2)) D s 78 [w, .int .i64 z] = some (encF (v / 2 ^ z.toNat), s) := by
  obtain ⟨l, hs, hl, hk, rfl⟩ := h
  exact callA_Si _ _ _ _ hs _ _ _ fun b => rshr_eq n d b l z hl (by omega) (by omega) hz
theorem rcLen {w : AV} {v : Nat} (h : Num w v) : callA cfg0 (evalFn Tryd.prog cfg0 n (d+2)) D s 56 [w] = some (.int .i64 ((blen v : Nat) : Int), s) := by
  obtain ⟨l, hs, hl, hk, rfl⟩ := h
  exact callA_S1 _ D s 56 hs _ fun b => rlen_eq n d b l hl (by omega) (by omega)
end
end Go.Ab

/- The reference's Div. Conditions: limbs in range, not too many. -/
namespace Go.Ab
open Go.Proofs
set_option maxRecDepth 100000
set_option linter.unusedSimpArgs false

/-- What is left, as the reference gives it: nothing at all where no bit was looked at. -/
def encQ (bits r : Nat) : AV := if bits = 0 then .sl [] 0 .nil else encF r
theorem encQ_num (bits r k : Nat) (hk : k ≤ 1000) (h : r < B ^ k) (h0 : bits = 0 → r = 0) : Num (encQ bits r) r := by
  unfold encQ
  split
  · rename_i hb
    rw [h0 hb]; exact num_nil
  · exact num_F r k hk h
theorem encQ_sh (bits r : Nat) (h0 : bits = 0 → r = 0) : Sh (encQ bits r) (digs r) := by
  unfold encQ
  split
  · rename_i hb
    rw [h0 hb, digs_0]; exact ⟨_, rfl⟩
  · exact sh_L _ _
theorem settle_Q (s : St) (bits r : Nat) : settle s (encQ bits r) = some (encQ bits r, s) := by
  unfold encQ; split <;> rfl
theorem finish_FQ (k : Bool) (xs : List Arg) (t t' : Nat) (env : Env) (s : St) (v bits v' : Nat) (os : List (List AV)) (hv : env t = encF v) (hv' : env t' = encQ bits v') (ho : outsA s 0 xs = some os) :
    finishP Tryd.prog k xs #[.tmp t, .tmp t'] env s = some (.tree (.tup [encF v, encQ bits v']), os) := by
  have e : settle s (encF v) = some (encF v, s) := settle_L s _ _
  simp only [finishP_t1, finishP_t2, finish, List.mapM_cons, List.mapM_nil, hv, hv', Option.pure_def, Option.bind_eq_bind, Option.bind_some, settleL, e, settle_Q, Option.map_some, ho]
theorem encQ_pos (bits r : Nat) (h : bits ≠ 0) : encQ bits r = encF r := if_neg h
theorem finish_nil2 (k : Bool) (xs : List Arg) (t t' : Nat) (env : Env) (s : St) (os : List (List AV)) (hv : env t = .sl [] 0 .nil) (hv' : env t' = .sl [] 0 .nil) (ho : outsA s 0 xs = some os) :
    finishP Tryd.prog k xs #[.tmp t, .tmp t'] env s = some (.tree (.tup [.sl [] 0 .nil, .sl [] 0 .nil]), os) := by
  simp only [finishP_t1, finishP_t2, finish, List.mapM_cons, List.mapM_nil, hv, hv', Option.pure_def, Option.bind_eq_bind, Option.bind_some, settleL, settle, Option.map_some, ho]
def divR (x y : Nat) : AV := if y = 0 then .tup [.sl [] 0 .nil, .sl [] 0 .nil] else .tup [encF (x / y), encQ (blen x) (x % y)]
theorem rdiv_eq (n d : Nat) (b b' : Gk) (l m : List Nat) (hl : Limbs l) (hm : Limbs m) (hn : 100000 ≤ n) (hll : l.length ≤ 900) (hml : m.length ≤ 900) :
    evalFn Tryd.prog cfg0 n (d+4) 51 [.tree (encL b l), .tree (encL b' m)] = some (.tree (divR (val l) (val m)), [[], []]) := by
  rw [evalFn_go _ Tryd.func51 (by unfold Tryd.f51; rfl) (by unfold Tryd.f51; decide) (Nat.le_of_ble_eq_true (by unfold Tryd.f51; rfl)) (by kernel_rfl)]
  have c1 := rnorm_call n (d + 2) b' m hm (by omega) (by omega)
  by_cases hz : val m = 0
  · have p1 : (((digs (val m)).length : Int) == 0) = true := by rw [hz, digs_0]; rfl
    simp only [zaa, zab, zac, zad, zae, zaf, zag, zah, zai, zaj, zak, zal, zam, zan, zao, zap, zaq, zar, zas, zat, zau, zav, zaw, zax, zay, zaz, zba, zbb, zbc, zbd, zbe, zbf, zbg, zbh, zbi, zbj, Nat.reduceBEq, Bool.or_self, Bool.or_false, Bool.or_true, Bool.and_true, Bool.and_false, Bool.true_and, Bool.false_and, Option.isNone_none, Option.isNone_some, Option.isSome_some, Option.isSome_none, zbk, zbl, zbm, zbn, zbo, zbp, zbq, zbr, zbs, zbt, zbu, zbv, zbw, zbx, zby, zbz, zca, zcb, zcc, zcd, zce, zcf, zcg, zch, zci, zcj, zck, zcl, zcm, zcn, zco, zcp, zcq, zcr, zcs, zct, zcu, zcv, zcw, zcx, zcy, zcz, zda, zdb, zdc, zdd, zde, zdf, Option.getD_some, Option.getD_none, zet, zeu, zev, zew, zex, zey, zez, zfa, Option.map_some, Option.map_none, Option.bind_some, List.map_cons, List.map_nil, List.cons_append, List.nil_append, ↓reduceIte, Nat.reduceEqDiff, Nat.reduceAdd, decide_true, decide_false, Bool.true_eq_false, Bool.false_eq_true, env0, List.getElem?_cons_zero, List.getElem?_cons_succ, zdg, zdh, zdi, zdj, zdk, zdl, zdm, zdn, ia22, ld31, zdo, zdp, c1, lenF, p1]
    rw [divR, if_pos hz]
    exact finish_nil2 _ _ _ _ _ _ _ (by simp only [zfa, ↓reduceIte, Nat.reduceEqDiff]) (by simp only [zfa, ↓reduceIte, Nat.reduceEqDiff]) rfl
  have p1 : (((digs (val m)).length : Int) == 0) = false := by
    rw [beq_eq_false_iff_ne]
    intro h
    exact hz ((digs_len0 _).mp (by omega))
  rw [divR, if_neg hz]
  have e2 := make22 15 dead (l.length : Int) (by omega) (by omega)
  rw [Int.toNat_natCast] at e2
  have e3 : (dead 15).t + 1 = 1 := rfl
  have c2 := fun D s => rcLen n (d + 1) hn D s (num_L b l hl (by omega))
  have hbl : blen (val l) ≤ 32 * l.length := blen_le _ _ (by rw [← B_pow]; exact val_lt l hl)
  have e4 := i_sub Tryd.prog 3 (blen (val l) : Int) 1 (by omega) (by omega)
  have hmB : val m < B ^ m.length := val_lt m hm
  have nm := num_L b' m hm (by omega)
  simp only [zaa, zab, zac, zad, zae, zaf, zag, zah, zai, zaj, zak, zal, zam, zan, zao, zap, zaq, zar, zas, zat, zau, zav, zaw, zax, zay, zaz, zba, zbb, zbc, zbd, zbe, zbf, zbg, zbh, zbi, zbj, Nat.reduceBEq, Bool.or_self, Bool.or_false, Bool.or_true, Bool.and_true, Bool.and_false, Bool.true_and, Bool.false_and, Option.isNone_none, Option.isNone_some, Option.isSome_some, Option.isSome_none, zbk, zbl, zbm, zbn, zbo, zbp, zbq, zbr, zbs, zbt, zbu, zbv, zbw, zbx, zby, zbz, zca, zcb, zcc, zcd, zce, zcf, zcg, zch, zci, zcj, zck, zcl, zcm, zcn, zco, zcp, zcq, zcr, zcs, zct, zcu, zcv, zcw, zcx, zcy, zcz, zda, zdb, zdc, zdd, zde, zdf, Option.getD_some, Option.getD_none, zet, zeu, zev, zew, zex, zey, zez, zfa, Option.map_some, Option.map_none, Option.bind_some, List.map_cons, List.map_nil, List.cons_append, List.nil_append, ↓reduceIte, Nat.reduceEqDiff, Nat.reduceAdd, decide_true, decide_false, Bool.true_eq_false, Bool.false_eq_true, env0, List.getElem?_cons_zero, List.getElem?_cons_succ, zdg, zdh, zdi, zdj, zdk, zdl, zdm, zdn, ia22, ld31, zdo, zdp, st0_2, c1, c2, lenF, p1, e2, e3, e4, den_loop]
  obtain ⟨bl, hbq⟩ : ∃ bl, bl = blen (val l) := ⟨_, rfl⟩
  rw [← hbq] at hbl ⊢
  refine loop_ends (X := Nat × Nat × List Nat × Nat) (fun x env s => env 0 = encL b l ∧ env 1 = encL b' m ∧ env 8 = .int .i64 ((x.1 : Int) - 1) ∧ env 7 = encQ (bl - x.1) x.2.1 ∧ env 6 = .own 15 1 0 l.length 1 ∧ s 15 = ⟨1, .buf (encC x.2.2.1)⟩ ∧ x.1 ≤ bl ∧ x.2.1 < val m ∧ (x.1 = bl → x.2.1 = 0) ∧ x.2.2.1.length = l.length ∧ Limbs x.2.2.1 ∧ val x.2.2.1 = x.2.2.2 * 2 ^ x.1 ∧ val l / 2 ^ x.1 = x.2.2.2 * val m + x.2.1) (fun x => x.1) (fun _ => (.tree (.tup [encF (val l / val m), encQ bl (val l % val m)]), [[], []])) ?_ n (bl, 0, List.replicate l.length 0, 0) _ _ (by simp only; omega) ⟨rfl, rfl, rfl, by simp only [Nat.sub_self]; rfl, rfl, rfl, Nat.le_refl _, by simp only; omega, fun _ => rfl, by simp, ?_, by simp [val_rep], ?_⟩
  rotate_left
  · intro x hx; rw [List.eq_of_mem_replicate hx]; decide
  · simp only [Nat.zero_mul, Nat.zero_add]; rw [hbq]; exact Nat.div_eq_of_lt (lt_blen _)
  intro k' ⟨x, r, o, Q⟩ hx ih env s ⟨h0, h1, h7, h5, h6, hs, hi, hr, hr0, hol, hoL, hQ, hA⟩
  simp only at h0 h1 h7 h5 h6 hs hi hr hr0 hol hoL hQ hA hx
  by_cases hp : x = 0
  · subst hp
    have q1 : ¬ (((0 : Nat) : Int) - 1 ≥ 0) := by omega
    obtain ⟨s9, e9⟩ := rnorm_hold n (d + 2) s (.own 15 1 0 l.length 1) o (.inr (.inr ⟨15, 1, by rw [hol], hs⟩)) hoL (by omega) (by omega) 61
    rw [Nat.sub_zero] at h5
    simp only [zaa, zab, zac, zad, zae, zaf, zag, zah, zai, zaj, zak, zal, zam, zan, zao, zap, zaq, zar, zas, zat, zau, zav, zaw, zax, zay, zaz, zba, zbb, zbc, zbd, zbe, zbf, zbg, zbh, zbi, zbj, Nat.reduceBEq, Bool.or_self, Bool.or_false, Bool.or_true, Bool.and_true, Bool.and_false, Bool.true_and, Bool.false_and, Option.isNone_none, Option.isNone_some, Option.isSome_some, Option.isSome_none, zbk, zbl, zbm, zbn, zbo, zbp, zbq, zbr, zbs, zbt, zbu, zbv, zbw, zbx, zby, zbz, zca, zcb, zcc, zcd, zce, zcf, zcg, zch, zci, zcj, zck, zcl, zcm, zcn, zco, zcp, zcq, zcr, zcs, zct, zcu, zcv, zcw, zcx, zcy, zcz, zda, zdb, zdc, zdd, zde, zdf, Option.getD_some, Option.getD_none, zet, zeu, zev, zew, zex, zey, zez, zfa, Option.map_some, Option.map_none, Option.bind_some, List.map_cons, List.map_nil, List.cons_append, List.nil_append, ↓reduceIte, Nat.reduceEqDiff, Nat.reduceAdd, decide_true, decide_false, Bool.true_eq_false, Bool.false_eq_true, zdg, zdh, zdi, zdj, zdk, zdl, zdm, zdn, ia22, ld31, zdo, zdp, h0, h1, h7, h5, h6, q1, e9]
    have hq : val l / val m = val o ∧ val l % val m = r := by
      rw [Nat.pow_zero, Nat.div_one] at hA
      rw [Nat.pow_zero, Nat.mul_one] at hQ
      rw [hA, hQ, Nat.mul_comm]
      constructor
      · rw [Nat.mul_add_div (by omega), Nat.div_eq_of_lt hr, Nat.add_zero]
      · rw [Nat.mul_add_mod, Nat.mod_eq_of_lt hr]
    rw [hq.1, hq.2]
    exact finish_FQ _ _ _ _ _ _ _ _ _ _ (by simp only [zfa, ↓reduceIte, Nat.reduceEqDiff]) (by simp only [zfa, ↓reduceIte]) rfl
  · obtain ⟨y, rfl⟩ : ∃ y, x = y + 1 := ⟨x - 1, by omega⟩
    have p2 : ((y + 1 : Nat) : Int) - 1 = (y : Int) := by omega
    rw [p2] at h7
    have p6 : (y : Int) ≥ 0 := by omega
    have p3 : ((y / 32 : Nat) : Int) < l.length := by omega
    have p4 : y / 32 < l.length := by omega
    have p7 : (0 : Int) ≤ ((y / 32 : Nat) : Int) := by omega
    have g0 := i_sub Tryd.prog 3 (y : Int) 1 (by omega) (by omega)
    have g1 := i_quo Tryd.prog 3 y 32 (by decide) (by omega)
    have g2 := i_rem Tryd.prog 3 y 32 (by decide)
    rw [show ((32 : Nat) : Int) = 32 from rfl] at g1 g2
    have h900 : B ^ m.length * 4 ≤ B ^ (m.length + 1) := by
      rw [Nat.pow_succ]
      exact Nat.mul_le_mul_left _ (by decide)
    have hk1 : m.length + 1 ≤ 1000 := by omega
    have hrB : r < B ^ (m.length + 1) := by generalize B ^ (m.length + 1) = b1 at *; generalize B ^ m.length = b2 at *; omega
    have hr2 : r * 2 ^ 1 < B ^ (m.length + 1) := by generalize B ^ (m.length + 1) = b1 at *; generalize B ^ m.length = b2 at *; omega
    have hr3 : r * 2 ^ 1 + 1 < B ^ (m.length + 1) := by generalize B ^ (m.length + 1) = b1 at *; generalize B ^ m.length = b2 at *; omega
    have nq : Num (encQ (bl - (y + 1)) r) r := encQ_num _ r _ hk1 hrB (fun h => hr0 (by omega))
    have c3 := fun D s => rcShl n (d + 1) hn D s nq 1
    rw [shn_1] at c3
    have e10 : ∀ s, convA Tryd.prog 3 36 s (.int .i64 ((y % 32 : Nat) : Int)) = some (.int .u64 ((y % 32 : Nat) : Int)) := fun s => conv3_42 s _ (by omega)
    have hlw := getD_lt l hl (y / 32)
    have g3 := s_shr Tryd.prog 48 (l.getD (y / 32) 0) .u64 ((y % 32 : Nat) : Int) (by omega) (by omega)
    rw [Int.toNat_natCast] at g3
    have g4 := s_and1 Tryd.prog 48 (l.getD (y / 32) 0 / 2 ^ (y % 32)) (Nat.lt_of_le_of_lt (Nat.div_le_self _ _) hlw)
    rw [bit_limb l hl] at g4
    have hbit := div_pow1 (val l) y
    have hb01 : val l / 2 ^ y % 2 < 2 := Nat.mod_lt _ (by decide)
    generalize val l / 2 ^ y % 2 = bit at *
    rw [hA] at hbit
    -- the remainder with the next bit
    have one1 : Num (.sl [.int .u32 1] 1 .tight) 1 := ⟨[1], ⟨_, rfl⟩, limbs_one (by decide), by decide, rfl⟩
    have c4 := fun D s => rcAdd n (d + 1) hn D s (num_F (r * 2 ^ 1) _ hk1 hr2) one1
    have hnew : val l / 2 ^ y = 2 * Q * val m + (r * 2 ^ 1 + bit) := by
      rw [hbit, Nat.mul_add, Nat.mul_assoc]; omega
    have hr4 : r * 2 ^ 1 + bit < B ^ (m.length + 1) := by generalize B ^ (m.length + 1) = b1 at *; omega
    have c5 := fun D s => rcCmp n (d + 1) hn D s (num_F (r * 2 ^ 1 + bit) _ hk1 hr4) nm
    have c6 := fun D s => rcSub n d hn D s (num_F (r * 2 ^ 1 + bit) _ hk1 hr4) nm
    have t1 := ia_own s 15 1 _ l.length .i64 ((y / 32 : Nat) : Int) hs p7 p3
    rw [Int.toNat_natCast] at t1
    have t2 := ld_own s 15 1 o (y / 32) hs (by omega)
    have t3 := s_shl1 Tryd.prog 48 .u64 (y % 32) (Nat.mod_lt _ (by decide))
    have hob := or_bit o hoL y Q hQ
    have t4 := s_or Tryd.prog 48 (o.getD (y / 32) 0) (2 ^ (y % 32)) (getD_lt o hoL _) (show 2 ^ (y % 32) < 2 ^ 32 from Nat.pow_lt_pow_right (by decide) (Nat.mod_lt _ (by decide)))
    have t5 := st31 s 15 1 _ (y / 32) (o.getD (y / 32) 0 ||| 2 ^ (y % 32)) hs (by omega)
    have hset := div_set o hoL y Q (by omega) hQ
    have hQ2 : val o = 2 * Q * 2 ^ y := by rw [hQ, pow1, Nat.mul_comm 2 Q, Nat.mul_assoc]
    have hbp : bl - y ≠ 0 := by omega
    by_cases hbz : bit = 0
    · have p5 : ((bit : Int) == 1) = false := by rw [hbz]; rfl
      have hb0 : r * 2 ^ 1 + bit = r * 2 ^ 1 := by omega
      rw [hb0] at c5 c6 hnew
      by_cases hlt : r * 2 ^ 1 < val m
      · have z1 : ¬ cmpZ (r * 2 ^ 1) (val m) ≥ 0 := by have := (cmpZ_lt (r * 2 ^ 1) (val m)).mpr hlt; omega
        simp only [zaa, zab, zac, zad, zae, zaf, zag, zah, zai, zaj, zak, zal, zam, zan, zao, zap, zaq, zar, zas, zat, zau, zav, zaw, zax, zay, zaz, zba, zbb, zbc, zbd, zbe, zbf, zbg, zbh, zbi, zbj, Nat.reduceBEq, Bool.or_self, Bool.or_false, Bool.or_true, Bool.and_true, Bool.and_false, Bool.true_and, Bool.false_and, Option.isNone_none, Option.isNone_some, Option.isSome_some, Option.isSome_none, zbk, zbl, zbm, zbn, zbo, zbp, zbq, zbr, zbs, zbt, zbu, zbv, zbw, zbx, zby, zbz, zca, zcb, zcc, zcd, zce, zcf, zcg, zch, zci, zcj, zck, zcl, zcm, zcn, zco, zcp, zcq, zcr, zcs, zct, zcu, zcv, zcw, zcx, zcy, zcz, zda, zdb, zdc, zdd, zde, zdf, Option.getD_some, Option.getD_none, zet, zeu, zev, zew, zex, zey, zez, zfa, Option.map_some, Option.map_none, Option.bind_some, List.map_cons, List.map_nil, List.cons_append, List.nil_append, ↓reduceIte, Nat.reduceEqDiff, Nat.reduceAdd, decide_true, decide_false, Bool.true_eq_false, Bool.false_eq_true, zdg, zdh, zdi, zdj, zdk, zdl, zdm, zdn, ia22, ld31, zdo, zdp, h0, h1, h7, h5, h6, p6, c3, g1, g2, e10, p7, p3, p4, Int.toNat_natCast, g3, bit_limb l hl, g4, p5, c5, z1, g0]
        refine ih (y, r * 2 ^ 1, o, 2 * Q) _ _ (by simp only; omega) rfl ⟨?_, ?_, ?_, ?_, ?_, hs, ?_, hlt, ?_, hol, hoL, hQ2, hnew⟩
        · simp only [zfa, ↓reduceIte, Nat.reduceEqDiff, h0]
        · simp only [zfa, ↓reduceIte, Nat.reduceEqDiff, h1]
        · simp only [zfa, ↓reduceIte, Nat.reduceEqDiff]
        · simp only [zfa, ↓reduceIte, Nat.reduceEqDiff, encQ_pos _ _ hbp]
        · simp only [zfa, ↓reduceIte, Nat.reduceEqDiff, h6]
        · simp only; omega
        · simp only; omega
      · have z1 : cmpZ (r * 2 ^ 1) (val m) ≥ 0 := Int.not_lt.mp fun h => hlt ((cmpZ_lt _ _).mp h)
        rw [encS, if_neg hlt] at c6
        simp only [zaa, zab, zac, zad, zae, zaf, zag, zah, zai, zaj, zak, zal, zam, zan, zao, zap, zaq, zar, zas, zat, zau, zav, zaw, zax, zay, zaz, zba, zbb, zbc, zbd, zbe, zbf, zbg, zbh, zbi, zbj, Nat.reduceBEq, Bool.or_self, Bool.or_false, Bool.or_true, Bool.and_true, Bool.and_false, Bool.true_and, Bool.false_and, Option.isNone_none, Option.isNone_some, Option.isSome_some, Option.isSome_none, zbk, zbl, zbm, zbn, zbo, zbp, zbq, zbr, zbs, zbt, zbu, zbv, zbw, zbx, zby, zbz, zca, zcb, zcc, zcd, zce, zcf, zcg, zch, zci, zcj, zck, zcl, zcm, zcn, zco, zcp, zcq, zcr, zcs, zct, zcu, zcv, zcw, zcx, zcy, zcz, zda, zdb, zdc, zdd, zde, zdf, Option.getD_some, Option.getD_none, zet, zeu, zev, zew, zex, zey, zez, zfa, Option.map_some, Option.map_none, Option.bind_some, List.map_cons, List.map_nil, List.cons_append, List.nil_append, ↓reduceIte, Nat.reduceEqDiff, Nat.reduceAdd, decide_true, decide_false, Bool.true_eq_false, Bool.false_eq_true, zdg, zdh, zdi, zdj, zdk, zdl, zdm, zdn, ia22, ld31, zdo, zdp, h0, h1, h7, h5, h6, p6, c3, g1, g2, e10, p7, p3, p4, Int.toNat_natCast, g3, bit_limb l hl, g4, p5, c5, z1, g0, c6, t1, t2, t3, t4, t5]
        refine ih (y, r * 2 ^ 1 - val m, o.set (y / 32) (o.getD (y / 32) 0 ||| 2 ^ (y % 32)), 2 * Q + 1) _ _ (by simp only; omega) rfl ⟨?_, ?_, ?_, ?_, ?_, ?_, ?_, ?_, ?_, ?_, ?_, hset, ?_⟩
        · simp only [zfa, ↓reduceIte, Nat.reduceEqDiff, h0]
        · simp only [zfa, ↓reduceIte, Nat.reduceEqDiff, h1]
        · simp only [zfa, ↓reduceIte, Nat.reduceEqDiff]
        · simp only [zfa, ↓reduceIte, Nat.reduceEqDiff, encQ_pos _ _ hbp]
        · simp only [zfa, ↓reduceIte, Nat.reduceEqDiff, h6]
        · rw [upd_self]
        · simp only; omega
        · simp only; omega
        · simp only; omega
        · simp only [List.length_set]; exact hol
        · exact limbs_set _ hoL _ _ hob.2
        · simp only; rw [hnew, Nat.add_mul, Nat.one_mul]; omega
    · have hb1 : bit = 1 := by omega
      have p5 : ((bit : Int) == 1) = true := by rw [hb1]; rfl
      rw [hb1] at c5 c6 hnew
      by_cases hlt : r * 2 ^ 1 + 1 < val m
      · have z1 : ¬ cmpZ (r * 2 ^ 1 + 1) (val m) ≥ 0 := by have := (cmpZ_lt (r * 2 ^ 1 + 1) (val m)).mpr hlt; omega
        simp only [zaa, zab, zac, zad, zae, zaf, zag, zah, zai, zaj, zak, zal, zam, zan, zao, zap, zaq, zar, zas, zat, zau, zav, zaw, zax, zay, zaz, zba, zbb, zbc, zbd, zbe, zbf, zbg, zbh, zbi, zbj, Nat.reduceBEq, Bool.or_self, Bool.or_false, Bool.or_true, Bool.and_true, Bool.and_false, Bool.true_and, Bool.false_and, Option.isNone_none, Option.isNone_some, Option.isSome_some, Option.isSome_none, zbk, zbl, zbm, zbn, zbo, zbp, zbq, zbr, zbs, zbt, zbu, zbv, zbw, zbx, zby, zbz, zca, zcb, zcc, zcd, zce, zcf, zcg, zch, zci, zcj, zck, zcl, zcm, zcn, zco, zcp, zcq, zcr, zcs, zct, zcu, zcv, zcw, zcx, zcy, zcz, zda, zdb, zdc, zdd, zde, zdf, Option.getD_some, Option.getD_none, zet, zeu, zev, zew, zex, zey, zez, zfa, Option.map_some, Option.map_none, Option.bind_some, List.map_cons, List.map_nil, List.cons_append, List.nil_append, ↓reduceIte, Nat.reduceEqDiff, Nat.reduceAdd, decide_true, decide_false, Bool.true_eq_false, Bool.false_eq_true, zdg, zdh, zdi, zdj, zdk, zdl, zdm, zdn, ia22, ld31, zdo, zdp, h0, h1, h7, h5, h6, p6, c3, g1, g2, e10, p7, p3, p4, Int.toNat_natCast, g3, bit_limb l hl, g4, p5, opA_one, one22_int, c4, c5, z1, g0]
        refine ih (y, r * 2 ^ 1 + 1, o, 2 * Q) _ _ (by simp only; omega) rfl ⟨?_, ?_, ?_, ?_, ?_, hs, ?_, hlt, ?_, hol, hoL, hQ2, hnew⟩
        · simp only [zfa, ↓reduceIte, Nat.reduceEqDiff, h0]
        · simp only [zfa, ↓reduceIte, Nat.reduceEqDiff, h1]
        · simp only [zfa, ↓reduceIte, Nat.reduceEqDiff]
        · simp only [zfa, ↓reduceIte, Nat.reduceEqDiff, encQ_pos _ _ hbp]
        · simp only [zfa, ↓reduceIte, Nat.reduceEqDiff, h6]
        · simp only; omega
        · simp only; omega
      · have z1 : cmpZ (r * 2 ^ 1 + 1) (val m) ≥ 0 := Int.not_lt.mp fun h => hlt ((cmpZ_lt _ _).mp h)
        rw [encS, if_neg hlt] at c6
        simp only [zaa, zab, zac, zad, zae, zaf, zag, zah, zai, zaj, zak, zal, zam, zan, zao, zap, zaq, zar, zas, zat, zau, zav, zaw, zax, zay, zaz, zba, zbb, zbc, zbd, zbe, zbf, zbg, zbh, zbi, zbj, Nat.reduceBEq, Bool.or_self, Bool.or_false, Bool.or_true, Bool.and_true, Bool.and_false, Bool.true_and, Bool.false_and, Option.isNone_none, Option.isNone_some, Option.isSome_some, Option.isSome_none, zbk, zbl, zbm, zbn, zbo, zbp, zbq, zbr, zbs, zbt, zbu, zbv, zbw, zbx, zby, zbz, zca, zcb, zcc, zcd, zce, zcf, zcg, zch, zci, zcj, zck, zcl, zcm, zcn, zco, zcp, zcq, zcr, zcs, zct, zcu, zcv, zcw, zcx, zcy, zcz, zda, zdb, zdc, zdd, zde, zdf, Option.getD_some, Option.getD_none, zet, zeu, zev, zew, zex, zey, zez, zfa, Option.map_some, Option.map_none, Option.bind_some, List.map_cons, List.map_nil, List.cons_append, List.nil_append, ↓reduceIte, Nat.reduceEqDiff, Nat.reduceAdd, decide_true, decide_false, Bool.true_eq_false, Bool.false_eq_true, zdg, zdh, zdi, zdj, zdk, zdl, zdm, zdn, ia22, ld31, zdo, zdp, h0, h1, h7, h5, h6, p6, c3, g1, g2, e10, p7, p3, p4, Int.toNat_natCast, g3, bit_limb l hl, g4, p5, opA_one, one22_int, c4, c5, z1, g0, c6, t1, t2, t3, t4, t5]
        refine ih (y, r * 2 ^ 1 + 1 - val m, o.set (y / 32) (o.getD (y / 32) 0 ||| 2 ^ (y % 32)), 2 * Q + 1) _ _ (by simp only; omega) rfl ⟨?_, ?_, ?_, ?_, ?_, ?_, ?_, ?_, ?_, ?_, ?_, hset, ?_⟩
        · simp only [zfa, ↓reduceIte, Nat.reduceEqDiff, h0]
        · simp only [zfa, ↓reduceIte, Nat.reduceEqDiff, h1]
        · simp only [zfa, ↓reduceIte, Nat.reduceEqDiff]
        · simp only [zfa, ↓reduceIte, Nat.reduceEqDiff, encQ_pos _ _ hbp]
        · simp only [zfa, ↓reduceIte, Nat.reduceEqDiff, h6]
        · rw [upd_self]
        · simp only; omega
        · simp only; omega
        · simp only; omega
        · simp only [List.length_set]; exact hol
        · exact limbs_set _ hoL _ _ hob.2
        · simp only; rw [hnew, Nat.add_mul, Nat.one_mul]; omega
end Go.Ab
