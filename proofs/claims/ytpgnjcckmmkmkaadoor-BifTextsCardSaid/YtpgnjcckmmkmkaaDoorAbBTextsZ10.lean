/- Several texts put together: AbbX4, AbbB4, AbbB5, AbbT25, AbbB6, AbbB7, AbbLawBTexts. Conditions: as each part says. -/
import Derived.Test.YtpgnjcckmmkmkaaDoorAbBTextsZ09
import Derived.Test.YtpgnjcckmmkmkaaDoorAbBTextsZ08
import Derived.Test.YtpgnjcckmmkmkaaDoorAbBTextsZ04
/- A number's text: the walk. Conditions: a number that is shown. -/
namespace Go.Ab
open Go.Proofs
set_option maxRecDepth 100000
set_option linter.unusedSimpArgs false

theorem rep_set {α : Type} (a b : α) (l : List α) : ∀ k, (List.replicate (k + 1) a ++ l).set k b = List.replicate k a ++ b :: l
  | 0 => rfl
  | k + 1 => by
    rw [List.replicate_succ, List.cons_append, List.set_cons_succ, rep_set a b l k, List.replicate_succ, List.cons_append]
theorem padN_succ (i v : Nat) : padN (i + 1) v = dg (v / 10 ^ i) :: padN i v := by
  rw [Nat.add_comm, padN_add 1 i v]; rfl
/-- Nine places, of which so many digits have been written. -/
def cellsI (i v : Nat) : List AV := List.replicate (9 - i) (.int .u8 0) ++ (padN i v).map dcell
theorem cellsI_len (i v : Nat) (h : i ≤ 9) : (cellsI i v).length = 9 := by simp [cellsI, padN_len]; omega
theorem cellsI_set (i v : Nat) (h : i < 9) : (cellsI i v).set (8 - i) (.int .u8 ((48 + v / 10 ^ i % 10 : Nat) : Int)) = cellsI (i + 1) v := by
  unfold cellsI
  rw [show 9 - i = (8 - i) + 1 by omega, rep_set, show 9 - (i + 1) = 8 - i by omega, padN_succ, List.map_cons]
  congr 2
  rw [dcell, dg_nat]
theorem cellsI_9 (v : Nat) : cellsI 9 v = (padN 9 v).map dcell := rfl
theorem bd_1R (v : Nat) : buildA Tryd.prog 27 [(1, encR v)] = some (.agg [.bool false, encR v]) := by
  simp only [buildA, zef, tk24, pl24, Option.bind_some]
  unfold encR encL
  split <;> rfl
theorem ten9 : (10 : Nat) ^ 9 = 1000000000 := by decide
theorem cDiv9 (n d : Nat) (hn : 100000 ≤ n) (D : Nat) (s : St) (g : Gk) (v : Nat) (hv : v < B ^ 12) : callA cfg0 (evalFn Tryd.prog cfg0 n (d+5)) D s 27 [encL g (digs v), .sl [.int .u32 1000000000] 1 .tight] = some (.tup [encR (v / 10 ^ 9), encR (v % 10 ^ 9)], s) := by
  have hv1 : val [1000000000] = 1000000000 := by decide
  have := cDivS n d hn D s (w := encL g (digs v)) (w' := .sl [.int .u32 1000000000] 1 .tight) (l := digs v) (m := [1000000000]) (sh_L g _) ⟨.tight, rfl⟩ (limbs_digs _) (limbs_one (by decide)) (by have := digs_len _ 12 hv; omega) (by decide)
  rw [val_digs, hv1, if_neg (by decide), if_neg (by decide), ← ten9] at this
  exact this
theorem cInt9 (n d : Nat) (hn : 100000 ≤ n) (D : Nat) (s : St) (v : Nat) (hv : v < 1000000000) : callA cfg0 (evalFn Tryd.prog cfg0 n (d+3)) D s 28 [.agg [.bool false, encR v]] = some (.tup [.int .i64 (v : Int), .bool true], s) := by
  have big := B12_big
  have e : (.agg [.bool false, encR v] : AV) = encZ (v : Int) := by
    rw [encZ, Int.natAbs_natCast, decide_eq_false (by omega)]
  rw [e]
  have := cInt n d hn (isN_Z (v : Int) (by omega)) D s
  have hi : isI64 (v : Int) = true := by unfold isI64; rw [decide_eq_true (by omega), decide_eq_true (by omega)]; rfl
  rw [intZ, if_pos hi] at this
  exact this
theorem flat9 : ∀ (ss : List (List UInt8)), (∀ x ∈ ss, x.length = 9) → ss.flatten.length = 9 * ss.length
  | [], _ => rfl
  | a :: r, h => by
    rw [List.flatten_cons, List.length_append, h a List.mem_cons_self, flat9 r fun x hx => h x (List.mem_cons_of_mem _ hx), List.length_cons]
    omega
theorem textZ_of (z : Int) : textZ z = if decN z.natAbs = [] then [48] else if z < 0 then 45 :: decN z.natAbs else decN z.natAbs := by
  unfold textZ
  by_cases h : z = 0
  · subst h; rw [if_pos rfl, if_pos (by simp [decN_0])]
  · have h2 : ¬ decN z.natAbs = [] := fun hc => h (by have := (decN_nil _).mp hc; omega)
    rw [if_neg h, if_neg h2]
set_option maxHeartbeats 16000000 in
theorem text_eq (n d : Nat) (hn : 100000 ≤ n) {w : AV} {z : Int} (hw : IsN w z) : evalFn Tryd.prog cfg0 n (d+6) 16 [.tree w] = some (.tree (.str (textZ z)), [[]]) := by
  obtain ⟨g, c1⟩ := cOf n (d + 3) hw
  have hlt := hw.lt
  obtain ⟨neg, g0, l0, rfl, hl, hz⟩ := hw
  rw [evalFn_go _ Tryd.func16 (by unfold Tryd.f16; rfl) (by unfold Tryd.f16; decide) (Nat.le_of_ble_eq_true (by unfold Tryd.f16; rfl)) (by kernel_rfl)]
  simp only [zaa, zab, zac, zad, zae, zaf, zag, zah, zai, zaj, zak, zal, zam, zan, zao, zap, zaq, zar, zas, zat, zau, zav, zaw, zax, zay, zaz, zba, zbb, zbc, zbd, zbe, zbf, zbg, zbh, zbi, zbj, Nat.reduceBEq, Bool.or_self, Bool.or_false, Bool.or_true, Bool.and_true, Bool.and_false, Bool.true_and, Bool.false_and, Option.isNone_none, Option.isNone_some, Option.isSome_some, Option.isSome_none, zbk, zbl, zbm, zbn, zbo, zbp, zbq, zbr, zbs, zbt, zbu, zbv, zbw, zbx, zby, zbz, zca, zcb, zcc, zcd, zce, zcf, zcg, zch, zci, zcj, zck, zcl, zcm, zcn, zco, zcp, zcq, zcr, zcs, zct, zcu, zcv, zcw, zcx, zcy, zcz, zda, zdb, zdc, zdd, zde, zdf, Option.getD_some, Option.getD_none, zet, zeu, zev, zew, zex, zey, zez, zfa, Option.map_some, Option.map_none, Option.bind_some, List.map_cons, List.map_nil, List.cons_append, List.nil_append, ↓reduceIte, Nat.reduceEqDiff, Nat.reduceAdd, decide_true, decide_false, Bool.true_eq_false, Bool.false_eq_true, env0, List.getElem?_cons_zero, List.getElem?_cons_succ, zdg, zdh, zdi, zdj, zdk, zdl, zdm, zdn, ia22, ld31, zdo, zdp, zdq, zdr, zds, zdt, zdu, zdv, zdw, zdx, zdy, zdz, zea, zeb, zec, fa_0, fa_1, zed, bd_0, bd_2, zee, fd_1, zef, Nat.zero_add, zeg, List.toList_toArray, len9, ix9, zeh, zei, zej, zek, zel, st0_1, c1, den_loop]
  have h117 : z.natAbs < 10 ^ 117 := Nat.lt_trans hlt (Nat.lt_trans B12_ten (Nat.pow_lt_pow_right (by decide) (by decide)))
  generalize hv : z.natAbs = v at *
  refine loop_ends (X := Nat × Gk × Grip × List (List UInt8)) (fun x env s => env 1 = .ptr 1 1 0 ∧ env 3 = .sl (x.2.2.2.map .str) x.2.2.2.length x.2.2.1 ∧ env 4 = encL x.2.1 (digs (v / 10 ^ (9 * x.1))) ∧ s 1 = ⟨1, .buf [.bool (decide (z < 0)), encL g (digs v)]⟩ ∧ x.2.2.2.length = x.1 ∧ (∀ y ∈ x.2.2.2, y.length = 9) ∧ x.2.2.2.flatten = padN (9 * x.1) v ∧ (x.1 = 0 ∨ v / 10 ^ (9 * x.1) ≠ 0)) (fun x => 13 - x.1) (fun _ => (.tree (.str (textZ z)), [[]])) ?_ n (0, g, .nil, []) _ _ (by simp only; omega) ⟨by first | (simp only [zfa, ↓reduceIte, Nat.reduceEqDiff]; done) | (simp only [zfa, ↓reduceIte, Nat.reduceEqDiff]; rfl), by first | (simp only [zfa, ↓reduceIte, Nat.reduceEqDiff]; done) | (simp only [zfa, ↓reduceIte, Nat.reduceEqDiff]; rfl), by rw [Nat.mul_zero, Nat.pow_zero, Nat.div_one]; simp only [zfa, ↓reduceIte, Nat.reduceEqDiff], by simp only [zfa, ↓reduceIte, Nat.reduceEqDiff], rfl, by simp, rfl, .inl rfl⟩
  intro k ⟨m, gg, gr, ss⟩ hxk ih env s ⟨e1, e3, e4, j1, hm, h9, hfl, hnz⟩
  simp only at e3 e4 hm h9 hfl hnz hxk
  have hm12 : m ≤ 12 := by
    rcases hnz with h | h
    · omega
    · apply Classical.byContradiction
      intro hc
      apply h
      exact Nat.div_eq_of_lt (Nat.lt_of_lt_of_le h117 (Nat.pow_le_pow_right (by decide) (by omega)))
  have hx : v / 10 ^ (9 * m) < B ^ 12 := Nat.lt_of_le_of_lt (Nat.div_le_self _ _) hlt
  have c2 := fun D s => cDiv9 n d hn D s gg _ hx
  rw [Nat.div_div_eq_div_mul, ← Nat.pow_add, show 9 * m + 9 = 9 * (m + 1) by omega] at c2
  have hr : v / 10 ^ (9 * m) % 10 ^ 9 < 1000000000 := by have := Nat.mod_lt (v / 10 ^ (9 * m)) (show 0 < 10 ^ 9 by decide); rwa [ten9] at this ⊢
  obtain ⟨r, hrr⟩ : ∃ r, v / 10 ^ (9 * m) % 10 ^ 9 = r := ⟨_, rfl⟩
  rw [hrr] at c2 hr
  have c3 := fun D s => cInt9 n (d + 2) hn D s r hr
  simp only [zaa, zab, zac, zad, zae, zaf, zag, zah, zai, zaj, zak, zal, zam, zan, zao, zap, zaq, zar, zas, zat, zau, zav, zaw, zax, zay, zaz, zba, zbb, zbc, zbd, zbe, zbf, zbg, zbh, zbi, zbj, Nat.reduceBEq, Bool.or_self, Bool.or_false, Bool.or_true, Bool.and_true, Bool.and_false, Bool.true_and, Bool.false_and, Option.isNone_none, Option.isNone_some, Option.isSome_some, Option.isSome_none, zbk, zbl, zbm, zbn, zbo, zbp, zbq, zbr, zbs, zbt, zbu, zbv, zbw, zbx, zby, zbz, zca, zcb, zcc, zcd, zce, zcf, zcg, zch, zci, zcj, zck, zcl, zcm, zcn, zco, zcp, zcq, zcr, zcs, zct, zcu, zcv, zcw, zcx, zcy, zcz, zda, zdb, zdc, zdd, zde, zdf, Option.getD_some, Option.getD_none, zet, zeu, zev, zew, zex, zey, zez, zfa, Option.map_some, Option.map_none, Option.bind_some, List.map_cons, List.map_nil, List.cons_append, List.nil_append, ↓reduceIte, Nat.reduceEqDiff, Nat.reduceAdd, decide_true, decide_false, Bool.true_eq_false, Bool.false_eq_true, env0, List.getElem?_cons_zero, List.getElem?_cons_succ, zdg, zdh, zdi, zdj, zdk, zdl, zdm, zdn, ia22, ld31, zdo, zdp, zdq, zdr, zds, zdt, zdu, zdv, zdw, zdx, zdy, zdz, zea, zeb, zec, fa_0, fa_1, zed, bd_0, bd_2, zee, fd_1, zef, Nat.zero_add, zeg, List.toList_toArray, len9, ix9, zeh, zei, zej, zek, zel, e1, e3, e4, j1, opA_one, one22_int, c2, c3, bd_1R, zero65, den_loop]
  have hr' : padN 9 (v / 10 ^ (9 * m)) = padN 9 r := by rw [← hrr, padN_mod]
  have hfl2 : (padN 9 r :: ss).flatten = padN (9 * (m + 1)) v := by
    rw [List.flatten_cons, hfl, show 9 * (m + 1) = 9 + 9 * m by omega, padN_add 9 (9 * m) v, hr']
  clear c1 c2 c3
  obtain ⟨T, hT⟩ : ∃ T, (s 9).t + 1 = T := ⟨_, rfl⟩
  rw [hT]
  refine loop_ends (X := Nat) (fun i env s => env 1 = .ptr 1 1 0 ∧ env 3 = .sl (ss.map .str) ss.length gr ∧ env 5 = encR (v / 10 ^ (9 * (m + 1))) ∧ env 28 = .int .i64 (i : Int) ∧ env 7 = .int .i64 ((r / 10 ^ i : Nat) : Int) ∧ env 9 = .ptr 9 T 0 ∧ s 1 = ⟨1, .buf [.bool (decide (z < 0)), encL g (digs v)]⟩ ∧ s 9 = ⟨T, .buf (cellsI i r)⟩ ∧ i ≤ 9) (fun i => 9 - i) (fun _ => (.tree (.str (textZ z)), [[]])) ?_ n 0 _ _ (by omega) ⟨by simp only [zfa, ↓reduceIte, Nat.reduceEqDiff, e1], by simp only [zfa, ↓reduceIte, Nat.reduceEqDiff, e3], by simp only [zfa, ↓reduceIte, Nat.reduceEqDiff], by first | (simp only [zfa, ↓reduceIte, Nat.reduceEqDiff]; done) | (simp only [zfa, ↓reduceIte, Nat.reduceEqDiff]; rfl), by rw [Nat.pow_zero, Nat.div_one]; simp only [zfa, ↓reduceIte, Nat.reduceEqDiff], by simp only [zfa, ↓reduceIte, Nat.reduceEqDiff], by simp only [zfa, ↓reduceIte, Nat.reduceEqDiff, j1], by first | (simp only [zfa, ↓reduceIte, Nat.reduceEqDiff]; done) | (simp only [zfa, ↓reduceIte, Nat.reduceEqDiff]; rfl), by decide⟩
  clear e1 e3 e4 j1
  intro k' i hik ihi env s ⟨e1, e3, e5, e28, e7, e9, j1, j9, hi⟩
  by_cases hi9 : i = 9
  · subst hi9
    clear ihi
    have q1 : ¬ ((9 : Nat) : Int) < 9 := by decide
    rw [cellsI_9] at j9
    have s1 := fun t p k => sl65_d t p k (padN 9 r) (padN_len 9 r)
    have s2 := fun t k => cvB_d t k (padN 9 r) (padN_len 9 r)
    have ap := fun d s => append64 d s (padN 9 r) ss gr (by omega)
    have hlen9 : ∀ y ∈ padN 9 r :: ss, y.length = 9 := fun y hy => by
      rcases List.mem_cons.mp hy with rfl | hy
      · exact padN_len _ _
      · exact h9 y hy
    by_cases h0 : v / 10 ^ (9 * (m + 1)) = 0
    · have q2 : (((digs (v / 10 ^ (9 * (m + 1)))).length : Int) == 0) = true := by rw [h0]; simp [digs_0]
      have hlt2 : v < 10 ^ (9 * (m + 1)) := (Nat.div_eq_zero_iff.mp h0).resolve_left (by have := Nat.pow_pos (n := 9 * (m + 1)) (show 0 < 10 by decide); omega)
      have hfl9 := flat9 _ hlen9
      have c4 := fun gr D s => cJoin n (d + 4) (padN 9 r :: ss) gr (by rw [hfl9, List.length_cons]; omega) (by rw [List.length_cons]; omega) D s
      rw [hfl2] at c4
      simp only [List.map_cons] at c4
      have c5 := fun D s => callA_trees (cfg := cfg0) (d := D) (s := s) (f := 29) (vs := [.str (padN (9 * (m + 1)) v), .str [48]]) rfl (trimL0_eq n (d + 3) (padN (9 * (m + 1)) v) (by rw [padN_len]; omega))
      rw [padN_drop _ _ hlt2] at c5
      rw [textZ_of, hv]
      by_cases hd : decN v = []
      · have q3 : (decN v == []) = true := by rw [hd]; rfl
        rw [if_pos hd]
        simp only [zaa, zab, zac, zad, zae, zaf, zag, zah, zai, zaj, zak, zal, zam, zan, zao, zap, zaq, zar, zas, zat, zau, zav, zaw, zax, zay, zaz, zba, zbb, zbc, zbd, zbe, zbf, zbg, zbh, zbi, zbj, Nat.reduceBEq, Bool.or_self, Bool.or_false, Bool.or_true, Bool.and_true, Bool.and_false, Bool.true_and, Bool.false_and, Option.isNone_none, Option.isNone_some, Option.isSome_some, Option.isSome_none, zbk, zbl, zbm, zbn, zbo, zbp, zbq, zbr, zbs, zbt, zbu, zbv, zbw, zbx, zby, zbz, zca, zcb, zcc, zcd, zce, zcf, zcg, zch, zci, zcj, zck, zcl, zcm, zcn, zco, zcp, zcq, zcr, zcs, zct, zcu, zcv, zcw, zcx, zcy, zcz, zda, zdb, zdc, zdd, zde, zdf, Option.getD_some, Option.getD_none, zet, zeu, zev, zew, zex, zey, zez, zfa, Option.map_some, Option.map_none, Option.bind_some, List.map_cons, List.map_nil, List.cons_append, List.nil_append, ↓reduceIte, Nat.reduceEqDiff, Nat.reduceAdd, decide_true, decide_false, Bool.true_eq_false, Bool.false_eq_true, env0, List.getElem?_cons_zero, List.getElem?_cons_succ, zdg, zdh, zdi, zdj, zdk, zdl, zdm, zdn, ia22, ld31, zdo, zdp, zdq, zdr, zds, zdt, zdu, zdv, zdw, zdx, zdy, zdz, zea, zeb, zec, fa_0, fa_1, zed, bd_0, bd_2, zee, fd_1, zef, Nat.zero_add, zeg, List.toList_toArray, len9, ix9, zeh, zei, zej, zek, zel, e1, e3, e5, e28, e7, e9, j1, j9, q1, sl_65, s1, conv66_9, s2, opA_one64, one64_str, ap, lenR, q2, c4, c5, q3]
        exact finish_s _ _ _ _ _ _ _ (by simp only [zfa, ↓reduceIte, Nat.reduceEqDiff]) rfl
      · have q3 : (decN v == []) = false := by rw [beq_eq_false_iff_ne]; exact hd
        rw [if_neg hd]
        have hdl := dec_len 117 v h117
        have ad := s_addS Tryd.prog 9 [45] (decN v) (by simp only [List.length_cons, List.length_nil]; omega)
        by_cases hz0 : z < 0
        · rw [if_pos hz0]
          simp only [zaa, zab, zac, zad, zae, zaf, zag, zah, zai, zaj, zak, zal, zam, zan, zao, zap, zaq, zar, zas, zat, zau, zav, zaw, zax, zay, zaz, zba, zbb, zbc, zbd, zbe, zbf, zbg, zbh, zbi, zbj, Nat.reduceBEq, Bool.or_self, Bool.or_false, Bool.or_true, Bool.and_true, Bool.and_false, Bool.true_and, Bool.false_and, Option.isNone_none, Option.isNone_some, Option.isSome_some, Option.isSome_none, zbk, zbl, zbm, zbn, zbo, zbp, zbq, zbr, zbs, zbt, zbu, zbv, zbw, zbx, zby, zbz, zca, zcb, zcc, zcd, zce, zcf, zcg, zch, zci, zcj, zck, zcl, zcm, zcn, zco, zcp, zcq, zcr, zcs, zct, zcu, zcv, zcw, zcx, zcy, zcz, zda, zdb, zdc, zdd, zde, zdf, Option.getD_some, Option.getD_none, zet, zeu, zev, zew, zex, zey, zez, zfa, Option.map_some, Option.map_none, Option.bind_some, List.map_cons, List.map_nil, List.cons_append, List.nil_append, ↓reduceIte, Nat.reduceEqDiff, Nat.reduceAdd, decide_true, decide_false, Bool.true_eq_false, Bool.false_eq_true, env0, List.getElem?_cons_zero, List.getElem?_cons_succ, zdg, zdh, zdi, zdj, zdk, zdl, zdm, zdn, ia22, ld31, zdo, zdp, zdq, zdr, zds, zdt, zdu, zdv, zdw, zdx, zdy, zdz, zea, zeb, zec, fa_0, fa_1, zed, bd_0, bd_2, zee, fd_1, zef, Nat.zero_add, zeg, List.toList_toArray, len9, ix9, zeh, zei, zej, zek, zel, e1, e3, e5, e28, e7, e9, j1, j9, q1, sl_65, s1, conv66_9, s2, opA_one64, one64_str, ap, lenR, q2, c4, c5, q3, hz0, ad]
          exact finish_s _ _ _ _ _ _ _ (by simp only [zfa, ↓reduceIte, Nat.reduceEqDiff]) rfl
        · rw [if_neg hz0]
          simp only [zaa, zab, zac, zad, zae, zaf, zag, zah, zai, zaj, zak, zal, zam, zan, zao, zap, zaq, zar, zas, zat, zau, zav, zaw, zax, zay, zaz, zba, zbb, zbc, zbd, zbe, zbf, zbg, zbh, zbi, zbj, Nat.reduceBEq, Bool.or_self, Bool.or_false, Bool.or_true, Bool.and_true, Bool.and_false, Bool.true_and, Bool.false_and, Option.isNone_none, Option.isNone_some, Option.isSome_some, Option.isSome_none, zbk, zbl, zbm, zbn, zbo, zbp, zbq, zbr, zbs, zbt, zbu, zbv, zbw, zbx, zby, zbz, zca, zcb, zcc, zcd, zce, zcf, zcg, zch, zci, zcj, zck, zcl, zcm, zcn, zco, zcp, zcq, zcr, zcs, zct, zcu, zcv, zcw, zcx, zcy, zcz, zda, zdb, zdc, zdd, zde, zdf, Option.getD_some, Option.getD_none, zet, zeu, zev, zew, zex, zey, zez, zfa, Option.map_some, Option.map_none, Option.bind_some, List.map_cons, List.map_nil, List.cons_append, List.nil_append, ↓reduceIte, Nat.reduceEqDiff, Nat.reduceAdd, decide_true, decide_false, Bool.true_eq_false, Bool.false_eq_true, env0, List.getElem?_cons_zero, List.getElem?_cons_succ, zdg, zdh, zdi, zdj, zdk, zdl, zdm, zdn, ia22, ld31, zdo, zdp, zdq, zdr, zds, zdt, zdu, zdv, zdw, zdx, zdy, zdz, zea, zeb, zec, fa_0, fa_1, zed, bd_0, bd_2, zee, fd_1, zef, Nat.zero_add, zeg, List.toList_toArray, len9, ix9, zeh, zei, zej, zek, zel, e1, e3, e5, e28, e7, e9, j1, j9, q1, sl_65, s1, conv66_9, s2, opA_one64, one64_str, ap, lenR, q2, c4, c5, q3, hz0]
          exact finish_s _ _ _ _ _ _ _ (by simp only [zfa, ↓reduceIte, Nat.reduceEqDiff]) rfl
    · have q2 : (((digs (v / 10 ^ (9 * (m + 1)))).length : Int) == 0) = false := by
        rw [beq_eq_false_iff_ne]
        intro h
        exact h0 ((digs_len0 _).mp (by omega))
      simp only [zaa, zab, zac, zad, zae, zaf, zag, zah, zai, zaj, zak, zal, zam, zan, zao, zap, zaq, zar, zas, zat, zau, zav, zaw, zax, zay, zaz, zba, zbb, zbc, zbd, zbe, zbf, zbg, zbh, zbi, zbj, Nat.reduceBEq, Bool.or_self, Bool.or_false, Bool.or_true, Bool.and_true, Bool.and_false, Bool.true_and, Bool.false_and, Option.isNone_none, Option.isNone_some, Option.isSome_some, Option.isSome_none, zbk, zbl, zbm, zbn, zbo, zbp, zbq, zbr, zbs, zbt, zbu, zbv, zbw, zbx, zby, zbz, zca, zcb, zcc, zcd, zce, zcf, zcg, zch, zci, zcj, zck, zcl, zcm, zcn, zco, zcp, zcq, zcr, zcs, zct, zcu, zcv, zcw, zcx, zcy, zcz, zda, zdb, zdc, zdd, zde, zdf, Option.getD_some, Option.getD_none, zet, zeu, zev, zew, zex, zey, zez, zfa, Option.map_some, Option.map_none, Option.bind_some, List.map_cons, List.map_nil, List.cons_append, List.nil_append, ↓reduceIte, Nat.reduceEqDiff, Nat.reduceAdd, decide_true, decide_false, Bool.true_eq_false, Bool.false_eq_true, env0, List.getElem?_cons_zero, List.getElem?_cons_succ, zdg, zdh, zdi, zdj, zdk, zdl, zdm, zdn, ia22, ld31, zdo, zdp, zdq, zdr, zds, zdt, zdu, zdv, zdw, zdx, zdy, zdz, zea, zeb, zec, fa_0, fa_1, zed, bd_0, bd_2, zee, fd_1, zef, Nat.zero_add, zeg, List.toList_toArray, len9, ix9, zeh, zei, zej, zek, zel, e1, e3, e5, e28, e7, e9, j1, j9, q1, sl_65, s1, conv66_9, s2, opA_one64, one64_str, ap, lenR, q2]
      refine ih (m + 1, (if v / 10 ^ (9 * (m + 1)) = 0 then .n else .l), .tok 45 ((s 45).t + 1), padN 9 r :: ss) _ _ (by simp only; omega) rfl ⟨?_, ?_, ?_, ?_, ?_, hlen9, hfl2, .inr h0⟩
      · simp only [zfa, ↓reduceIte, Nat.reduceEqDiff, e1]
      · simp only [zfa, ↓reduceIte, Nat.reduceEqDiff]; rfl
      · simp only [zfa, ↓reduceIte, Nat.reduceEqDiff]; rfl
      · simp only [zfa, ↓reduceIte, Nat.reduceEqDiff, j1]
      · simp only [List.length_cons]; omega
  · have q1 : (i : Int) < 9 := by omega
    have hri : r / 10 ^ i ≤ r := Nat.div_le_self _ _
    have a1 := i_sub Tryd.prog 3 8 (i : Int) (by omega) (by omega)
    have a2 := i_rem Tryd.prog 3 (r / 10 ^ i) 10 (by decide)
    rw [show ((10 : Nat) : Int) = 10 from rfl] at a2
    have a3 := i_add Tryd.prog 3 48 ((r / 10 ^ i % 10 : Nat) : Int) (by omega) (by omega)
    rw [show (48 : Int) + ((r / 10 ^ i % 10 : Nat) : Int) = ((48 + r / 10 ^ i % 10 : Nat) : Int) by omega] at a3
    have a4 := fun s => conv3_5 s (48 + r / 10 ^ i % 10) (by omega)
    have a5 := i_quo Tryd.prog 3 (r / 10 ^ i) 10 (by decide) (by omega)
    rw [show ((10 : Nat) : Int) = 10 from rfl, Nat.div_div_eq_div_mul, ← Nat.pow_succ] at a5
    have a6 := i_add Tryd.prog 3 (i : Int) 1 (by omega) (by omega)
    have q2 : (0 : Int) ≤ 8 - (i : Int) ∧ 8 - (i : Int) < 9 := by omega
    have q3 : (8 - (i : Int)).toNat = 8 - i := by omega
    have q4 : 8 - i < (cellsI i r).length := by rw [cellsI_len i r hi]; omega
    have q5 := cellsI_set i r (by omega)
    simp only [zaa, zab, zac, zad, zae, zaf, zag, zah, zai, zaj, zak, zal, zam, zan, zao, zap, zaq, zar, zas, zat, zau, zav, zaw, zax, zay, zaz, zba, zbb, zbc, zbd, zbe, zbf, zbg, zbh, zbi, zbj, Nat.reduceBEq, Bool.or_self, Bool.or_false, Bool.or_true, Bool.and_true, Bool.and_false, Bool.true_and, Bool.false_and, Option.isNone_none, Option.isNone_some, Option.isSome_some, Option.isSome_none, zbk, zbl, zbm, zbn, zbo, zbp, zbq, zbr, zbs, zbt, zbu, zbv, zbw, zbx, zby, zbz, zca, zcb, zcc, zcd, zce, zcf, zcg, zch, zci, zcj, zck, zcl, zcm, zcn, zco, zcp, zcq, zcr, zcs, zct, zcu, zcv, zcw, zcx, zcy, zcz, zda, zdb, zdc, zdd, zde, zdf, Option.getD_some, Option.getD_none, zet, zeu, zev, zew, zex, zey, zez, zfa, Option.map_some, Option.map_none, Option.bind_some, List.map_cons, List.map_nil, List.cons_append, List.nil_append, ↓reduceIte, Nat.reduceEqDiff, Nat.reduceAdd, decide_true, decide_false, Bool.true_eq_false, Bool.false_eq_true, env0, List.getElem?_cons_zero, List.getElem?_cons_succ, zdg, zdh, zdi, zdj, zdk, zdl, zdm, zdn, ia22, ld31, zdo, zdp, zdq, zdr, zds, zdt, zdu, zdv, zdw, zdx, zdy, zdz, zea, zeb, zec, fa_0, fa_1, zed, bd_0, bd_2, zee, fd_1, zef, Nat.zero_add, zeg, List.toList_toArray, len9, ix9, zeh, zei, zej, zek, zel, e1, e3, e5, e28, e7, e9, j1, j9, q1, a1, a2, a3, a4, a5, a6, ia_65, ia65_buf, q2, and_self, q3, st_5, stB_buf, q4, q5]
    refine ihi (i + 1) _ _ (by omega) rfl ⟨?_, ?_, ?_, ?_, ?_, ?_, ?_, ?_, by omega⟩
    · simp only [zfa, ↓reduceIte, Nat.reduceEqDiff, e1]
    · simp only [zfa, ↓reduceIte, Nat.reduceEqDiff, e3]
    · simp only [zfa, ↓reduceIte, Nat.reduceEqDiff, e5]
    · simp only [zfa, ↓reduceIte, Nat.reduceEqDiff]; rfl
    · simp only [zfa, ↓reduceIte, Nat.reduceEqDiff]
    · simp only [zfa, ↓reduceIte, Nat.reduceEqDiff, e9]
    · simp only [zfa, ↓reduceIte, Nat.reduceEqDiff, j1]
    · simp only [zfa, ↓reduceIte, Nat.reduceEqDiff]
end Go.Ab

/- relictref03.List, relictlaw00.Proper; rows of ints that grow. Conditions: lengths in range. -/
namespace Go.Ab
open Go.Proofs
set_option maxRecDepth 100000
set_option linter.unusedSimpArgs false

def duo26 (x y : AV) : Option AV := (fillA (fun i => some (i * 6, 6)) (rep 2 [.int .i64 0, .bool false, .sl [] 0 .nil, .str [], .int .i64 0, .sl [] 0 .nil]) [(0, x), (1, y)]).map (.sl · 2 .tight)
theorem duo26_agg (a b c d e f a' b' c' d' e' f' : AV) : duo26 (.agg [a, b, c, d, e, f]) (.agg [a', b', c', d', e', f']) = some (.sl [a, b, c, d, e, f, a', b', c', d', e', f'] 2 .tight) := rfl
theorem opA_duo26 (call : FuncId → List Arg → Option Out) (q : Bool) (d : Option Tmp) (ty : TypeId) (pos : String) (af : Array Edge) (g : Option (Nat × Bool)) (t : Nat) (env : Env) (s : St) (x y : Operand) :
    opA Tryd.prog cfg0 call q ⟨d, .buildSlice 22 2 #[(0, x), (1, y)], ty, pos, af, g⟩ t env s = (duo26 (ev env x) (ev env y)).map (·, s) := by
  rw [opA_bs]
  simp only [tkTk, eszT, zeroT, Option.bind_some, List.map_cons, List.map_nil]
  rfl
theorem duo26_T (a b : T) : duo26 (.agg (cellsT a)) (.agg (cellsT b)) = some (.sl (cellsK [a, b]) 2 .tight) := by
  obtain ⟨k, b1, lg, l, s, m, kg, ks⟩ := a
  obtain ⟨k', b2, lg', l', s', m', kg', ks'⟩ := b
  simp only [cellsT, cellsK, List.append_nil, List.cons_append, List.nil_append]
  exact duo26_agg _ _ _ _ _ _ _ _ _ _ _ _
theorem bdT_cons (a b : T) : buildA Tryd.prog 29 [(0, .int .i64 4), (4, .sl (cellsK [a, b]) 2 .tight)] = some (.agg (cellsT (consT a b))) := bdT_4 4 _ _ .t
theorem isTree_G (g : Gk) (ks : List T) : isTree (.sl (cellsK ks) ks.length (gr g)) = true := by cases g <;> rfl
set_option maxHeartbeats 4000000 in
theorem rList_eq (n d : Nat) (ks : List T) (g : Grip) (t : T) (hn : ks.length < n) (hl : ks.length ≤ 1000000) : evalFn Tryd.prog cfg0 n (d+1) 8 [.tree (.sl (cellsK ks) ks.length g), .tree (encT t)] = some (.tree (encT (listT ks t)), [[], []]) := by
  rw [evalFn_go _ Tryd.func8 (by unfold Tryd.f8; rfl) (by unfold Tryd.f8; decide) (Nat.le_of_ble_eq_true (by unfold Tryd.f8; rfl)) (by kernel_rfl)]
  have f0 := i_sub Tryd.prog 3 (ks.length : Int) 1 (by omega) (by omega)
  simp only [zaa, zab, zac, zad, zae, zaf, zag, zah, zai, zaj, zak, zal, zam, zan, zao, zap, zaq, zar, zas, zat, zau, zav, zaw, zax, zay, zaz, zba, zbb, zbc, zbd, zbe, zbf, zbg, zbh, zbi, zbj, Nat.reduceBEq, Bool.or_self, Bool.or_false, Bool.or_true, Bool.and_true, Bool.and_false, Bool.true_and, Bool.false_and, Option.isNone_none, Option.isNone_some, Option.isSome_some, Option.isSome_none, zbk, zbl, zbm, zbn, zbo, zbp, zbq, zbr, zbs, zbt, zbu, zbv, zbw, zbx, zby, zbz, zca, zcb, zcc, zcd, zce, zcf, zcg, zch, zci, zcj, zck, zcl, zcm, zcn, zco, zcp, zcq, zcr, zcs, zct, zcu, zcv, zcw, zcx, zcy, zcz, zda, zdb, zdc, zdd, zde, zdf, Option.getD_some, Option.getD_none, zet, zeu, zev, zew, zex, zey, zez, zfa, Option.map_some, Option.map_none, Option.bind_some, List.map_cons, List.map_nil, List.cons_append, List.nil_append, ↓reduceIte, Nat.reduceEqDiff, Nat.reduceAdd, decide_true, decide_false, Bool.true_eq_false, Bool.false_eq_true, env0, List.getElem?_cons_zero, List.getElem?_cons_succ, zdg, zdh, zdi, zdj, zdk, zdl, zdm, zdn, ia22, ld31, zdo, zdp, zdq, zdr, zds, zdt, zdu, zdv, zdw, zdx, zdy, zdz, zea, zeb, zec, fa_0, fa_1, zed, bd_0, bd_2, zee, fd_1, zef, Nat.zero_add, zeroT, encT, ldT_u, st_Tt, stT_6, lenTk, f0, den_loop]
  refine loop_ends (X := Nat) (fun j env s => env 0 = .sl (cellsK ks) ks.length g ∧ env 4 = .ptr 4 1 0 ∧ env 5 = .ptr 5 1 0 ∧ env 6 = .int .i64 ((j : Int) - 1) ∧ s 4 = ⟨1, .buf [.int .i64 0, .bool false, .sl [] 0 .nil, .str [], .int .i64 0, .sl [] 0 .nil]⟩ ∧ s 5 = ⟨1, .buf (cellsT (listT (ks.drop j) t))⟩ ∧ j ≤ ks.length) (fun j => j) (fun _ => (.tree (encT (listT ks t)), [[], []])) ?_ n ks.length _ _ (by omega) ⟨(by first | (simp only [zfa, ↓reduceIte, Nat.reduceEqDiff, env0, List.getElem?_cons_zero]; done) | (simp only [zfa, ↓reduceIte, Nat.reduceEqDiff, env0, List.getElem?_cons_zero]; rfl)), (by first | (simp only [zfa, ↓reduceIte, Nat.reduceEqDiff]; done) | (simp only [zfa, ↓reduceIte, Nat.reduceEqDiff]; rfl)), (by first | (simp only [zfa, ↓reduceIte, Nat.reduceEqDiff]; done) | (simp only [zfa, ↓reduceIte, Nat.reduceEqDiff]; rfl)), (by first | (simp only [zfa, ↓reduceIte, Nat.reduceEqDiff]; done) | (simp only [zfa, ↓reduceIte, Nat.reduceEqDiff]; rfl)), (by first | (simp only [zfa, ↓reduceIte, Nat.reduceEqDiff]; done) | (simp only [zfa, ↓reduceIte, Nat.reduceEqDiff]; rfl)), by rw [List.drop_length]; exact (by first | (simp only [zfa, ↓reduceIte, Nat.reduceEqDiff]; done) | (simp only [zfa, ↓reduceIte, Nat.reduceEqDiff]; rfl)), Nat.le_refl _⟩
  intro rr j hr ih env st ⟨e0, e4, e5, e6, j4, j5, hj⟩
  cases j with
  | zero =>
    have q1 : ¬ (((0 : Nat) : Int) - 1 ≥ 0) := by omega
    rw [List.drop_zero] at j5
    simp only [zaa, zab, zac, zad, zae, zaf, zag, zah, zai, zaj, zak, zal, zam, zan, zao, zap, zaq, zar, zas, zat, zau, zav, zaw, zax, zay, zaz, zba, zbb, zbc, zbd, zbe, zbf, zbg, zbh, zbi, zbj, Nat.reduceBEq, Bool.or_self, Bool.or_false, Bool.or_true, Bool.and_true, Bool.and_false, Bool.true_and, Bool.false_and, Option.isNone_none, Option.isNone_some, Option.isSome_some, Option.isSome_none, zbk, zbl, zbm, zbn, zbo, zbp, zbq, zbr, zbs, zbt, zbu, zbv, zbw, zbx, zby, zbz, zca, zcb, zcc, zcd, zce, zcf, zcg, zch, zci, zcj, zck, zcl, zcm, zcn, zco, zcp, zcq, zcr, zcs, zct, zcu, zcv, zcw, zcx, zcy, zcz, zda, zdb, zdc, zdd, zde, zdf, Option.getD_some, Option.getD_none, zet, zeu, zev, zew, zex, zey, zez, zfa, Option.map_some, Option.map_none, Option.bind_some, List.map_cons, List.map_nil, List.cons_append, List.nil_append, ↓reduceIte, Nat.reduceEqDiff, Nat.reduceAdd, decide_true, decide_false, Bool.true_eq_false, Bool.false_eq_true, zdg, zdh, zdi, zdj, zdk, zdl, zdm, zdn, ia22, ld31, zdo, zdp, zdq, zdr, zds, zdt, zdu, zdv, zdw, zdx, zdy, zdz, zea, zeb, zec, fa_0, fa_1, zed, bd_0, bd_2, zee, fd_1, zef, Nat.zero_add, e0, e4, e5, e6, j4, j5, q1, ldT_u, st_Tt, stT_6]
    exact finish_cT _ _ _ _ _ (listT ks t) _ _ _ (by first | (simp only [zfa, ↓reduceIte, Nat.reduceEqDiff, e4]; done) | (simp only [zfa, ↓reduceIte, Nat.reduceEqDiff, e4]; rfl)) (by first | (simp only [zfa, ↓reduceIte, Nat.reduceEqDiff]; done) | (simp only [zfa, ↓reduceIte, Nat.reduceEqDiff]; rfl)) rfl
  | succ i =>
    have e6 : env 6 = .int .i64 (i : Int) := by rw [e6]; congr 1; omega
    have q1 : (i : Int) ≥ 0 := by omega
    have hil : i < ks.length := by omega
    have f5 := i_sub Tryd.prog 3 (i : Int) 1 (by omega) (by omega)
    have hd : ks.drop i = ks[i] :: ks.drop (i + 1) := List.drop_eq_getElem_cons hil
    have ia := fun st => ia_K st ks g i hil
    rw [hd] at ia
    have ld := fun st => ld_K st ks[i] (ks.drop (i + 1))
    simp only [encT] at ld
    simp only [zaa, zab, zac, zad, zae, zaf, zag, zah, zai, zaj, zak, zal, zam, zan, zao, zap, zaq, zar, zas, zat, zau, zav, zaw, zax, zay, zaz, zba, zbb, zbc, zbd, zbe, zbf, zbg, zbh, zbi, zbj, Nat.reduceBEq, Bool.or_self, Bool.or_false, Bool.or_true, Bool.and_true, Bool.and_false, Bool.true_and, Bool.false_and, Option.isNone_none, Option.isNone_some, Option.isSome_some, Option.isSome_none, zbk, zbl, zbm, zbn, zbo, zbp, zbq, zbr, zbs, zbt, zbu, zbv, zbw, zbx, zby, zbz, zca, zcb, zcc, zcd, zce, zcf, zcg, zch, zci, zcj, zck, zcl, zcm, zcn, zco, zcp, zcq, zcr, zcs, zct, zcu, zcv, zcw, zcx, zcy, zcz, zda, zdb, zdc, zdd, zde, zdf, Option.getD_some, Option.getD_none, zet, zeu, zev, zew, zex, zey, zez, zfa, Option.map_some, Option.map_none, Option.bind_some, List.map_cons, List.map_nil, List.cons_append, List.nil_append, ↓reduceIte, Nat.reduceEqDiff, Nat.reduceAdd, decide_true, decide_false, Bool.true_eq_false, Bool.false_eq_true, zdg, zdh, zdi, zdj, zdk, zdl, zdm, zdn, ia22, ld31, zdo, zdp, zdq, zdr, zds, zdt, zdu, zdv, zdw, zdx, zdy, zdz, zea, zeb, zec, fa_0, fa_1, zed, bd_0, bd_2, zee, fd_1, zef, Nat.zero_add, e0, e4, e5, e6, j4, j5, q1, ia, ld, ldT_u, opA_duo26, duo26_T, bdT_cons, st_Tt, stT_u, f5]
    exact ih i _ _ (by omega) rfl ⟨(by first | (simp only [zfa, ↓reduceIte, Nat.reduceEqDiff, e0]; done) | (simp only [zfa, ↓reduceIte, Nat.reduceEqDiff, e0]; rfl)), (by first | (simp only [zfa, ↓reduceIte, Nat.reduceEqDiff, e4]; done) | (simp only [zfa, ↓reduceIte, Nat.reduceEqDiff, e4]; rfl)), (by first | (simp only [zfa, ↓reduceIte, Nat.reduceEqDiff, e5]; done) | (simp only [zfa, ↓reduceIte, Nat.reduceEqDiff, e5]; rfl)), (by first | (simp only [zfa, ↓reduceIte, Nat.reduceEqDiff]; done) | (simp only [zfa, ↓reduceIte, Nat.reduceEqDiff]; rfl)), (by first | (simp only [zfa, ↓reduceIte, Nat.reduceEqDiff, j4]; done) | (simp only [zfa, ↓reduceIte, Nat.reduceEqDiff, j4]; rfl)), by rw [hd]; exact (by first | (simp only [zfa, ↓reduceIte, Nat.reduceEqDiff]; done) | (simp only [zfa, ↓reduceIte, Nat.reduceEqDiff]; rfl)), by omega⟩
/-! ### Rows of ints -/
theorem tkI : tkOf Tryd.prog 40 = .sl 3 := by kernel_rfl
theorem lenInts (s : St) (xs : List AV) (m : Nat) (g : Grip) : lenA Tryd.prog 40 s (.sl xs m g) = some (.int .i64 (m : Int)) := by simp only [lenA, tkI]
theorem iaInts (s : St) (xs : List AV) (m : Nat) (g : Grip) (i : Nat) (h : i < m) : indexAddrA Tryd.prog 40 s (.sl xs m g) (.int .i64 (i : Int)) = some (.rptr (xs.drop i)) := by
  simp only [indexAddrA, tkI, eszTi, Option.bind_some, Int.toNat_natCast, Nat.mul_one]
  rw [if_pos ⟨by omega, by omega⟩]
def ApI (s : St) (d : Nat) (x : AV) (us : List Int) : Prop := (us = [] ∧ x = .sl [] 0 .nil) ∨ (us ≠ [] ∧ ∃ t, x = .sl (intsA us) us.length (.tok d t) ∧ s d = ⟨t, .tok 1⟩)
theorem byI : decide (byOf Tryd.prog 3 ≤ 200) = true := by kernel_rfl
theorem zlI : (zeroOf Tryd.prog 3).map List.length = some 1 := by kernel_rfl
theorem intsA_len (us : List Int) : (intsA us).length = us.length := List.length_map _
theorem ApI.push {s : St} {d : Nat} {x : AV} {us : List Int} (h : ApI s d x us) (hl : us.length ≤ 1000000) (v : Int) :
    ∃ x' s', appendA Tryd.prog #[40, 40] d s x (.sl [.int .i64 v] 1 .tight) = some (x', s') ∧ ApI s' d x' (us ++ [v]) ∧ ∀ q, q ≠ d → s' q = s q := by
  have hb := of_decide_eq_true byI
  have hk : intsA (us ++ [v]) = intsA us ++ [.int .i64 v] := by simp [intsA]
  have hm : ∀ s, moreA Tryd.prog 3 1 (some 40) s (.sl [.int .i64 v] 1 .tight) = some ([.int .i64 v], 1) := fun s => by
    simp only [moreA, Option.map_some, tkI, List.length_cons, List.length_nil, Nat.one_mul, ↓reduceIte]
  have hc : (us.length + 1) * byOf Tryd.prog 3 ≤ 140737488355328 ∧ us.length + 1 ≤ 9223372036854775807 := by
    have : (us.length + 1) * byOf Tryd.prog 3 ≤ 1000001 * 200 := Nat.mul_le_mul (by omega) hb
    omega
  rcases h with ⟨rfl, rfl⟩ | ⟨_, t, rfl, hs⟩
  · refine ⟨_, upd s d ⟨(s d).t + 1, .tok 1⟩, ?_, .inr ⟨by simp, (s d).t + 1, rfl, upd_same _ _ _⟩, fun q hq => upd_ne _ _ hq⟩
    simp only [appendA, List.getElem?_toArray, List.getElem?_cons_zero, List.getElem?_cons_succ, Option.map_some, tkI, eszTi, Option.bind_some, hm, baseA, List.length_nil, Nat.zero_mul, ↓reduceIte, zlI, and_true]
    rw [if_pos (by simpa using hc)]
    simp [intsA]
  · refine ⟨_, upd (upd s d ⟨t, .dead⟩) d ⟨t + 1, .tok 1⟩, ?_, .inr ⟨by simp, t + 1, rfl, upd_same _ _ _⟩, fun q hq => (upd_ne _ _ hq).trans (upd_ne _ _ hq)⟩
    simp only [appendA, List.getElem?_toArray, List.getElem?_cons_zero, List.getElem?_cons_succ, Option.map_some, tkI, eszTi, Option.bind_some, hm, baseA, hs, intsA_len, Nat.mul_one, and_self, ↓reduceIte, zlI, and_true]
    rw [if_pos hc]
    simp only [upd_same, List.length_append, List.length_cons, List.length_nil, Nat.zero_add, hk]
def giOf (us : List Int) : Gk := if us = [] then .n else .l
theorem ApI.lent {s : St} {d : Nat} {x : AV} {us : List Int} (h : ApI s d x us) : isLent x = true ∧ loosen x = .sl (intsA us) us.length (gr (giOf us)) ∧ (isTree x = true → x = .sl (intsA us) us.length (gr (giOf us))) := by
  rcases h with ⟨rfl, rfl⟩ | ⟨hu, t, rfl, _⟩
  · exact ⟨rfl, rfl, fun _ => rfl⟩
  · exact ⟨rfl, by simp only [loosen, giOf, if_neg hu, gr], fun h => nomatch h⟩
theorem ApI.len {s : St} {d : Nat} {x : AV} {us : List Int} (h : ApI s d x us) (st : St) : lenA Tryd.prog 40 st x = some (.int .i64 (us.length : Int)) := by
  rcases h with ⟨rfl, rfl⟩ | ⟨hu, t, rfl, _⟩ <;> simp only [lenA, tkI] <;> rfl
def oneI (x : AV) : Option AV := (fillA (fun i => some (i * 1, 1)) (rep 1 [.int .i64 0]) [(0, x)]).map (.sl · 1 .tight)
theorem oneI_int (x : Int) : oneI (.int .i64 x) = some (.sl [.int .i64 x] 1 .tight) := rfl
theorem opA_oneI (call : FuncId → List Arg → Option Out) (q : Bool) (d : Option Tmp) (ty : TypeId) (pos : String) (af : Array Edge) (g : Option (Nat × Bool)) (t : Nat) (env : Env) (s : St) (x : Operand) :
    opA Tryd.prog cfg0 call q ⟨d, .buildSlice 40 1 #[(0, x)], ty, pos, af, g⟩ t env s = (oneI (ev env x)).map (·, s) := by
  rw [opA_bs]
  simp only [tkI, eszTi, zeroI, Option.bind_some, List.map_cons, List.map_nil]
  rfl
set_option maxHeartbeats 4000000 in
theorem proper_eq (n d : Nat) (hn : 100000 ≤ n) (xs : List Int) (g : Grip) (hx : ∀ x ∈ xs, I64 x) : evalFn Tryd.prog cfg0 n (d+5) 17 [.tree (.sl (intsA xs) xs.length g)] = some (.tree (encT (listT ((xs.take 60).map intT) nilT')), [[]]) := by
  rw [evalFn_go _ Tryd.func17 (by unfold Tryd.f17; rfl) (by unfold Tryd.f17; decide) (Nat.le_of_ble_eq_true (by unfold Tryd.f17; rfl)) (by kernel_rfl)]
  have lx := fun st => lenInts st (intsA xs) xs.length g
  have ix := fun st i h => iaInts st (intsA xs) xs.length g i h
  simp only [zaa, zab, zac, zad, zae, zaf, zag, zah, zai, zaj, zak, zal, zam, zan, zao, zap, zaq, zar, zas, zat, zau, zav, zaw, zax, zay, zaz, zba, zbb, zbc, zbd, zbe, zbf, zbg, zbh, zbi, zbj, Nat.reduceBEq, Bool.or_self, Bool.or_false, Bool.or_true, Bool.and_true, Bool.and_false, Bool.true_and, Bool.false_and, Option.isNone_none, Option.isNone_some, Option.isSome_some, Option.isSome_none, zbk, zbl, zbm, zbn, zbo, zbp, zbq, zbr, zbs, zbt, zbu, zbv, zbw, zbx, zby, zbz, zca, zcb, zcc, zcd, zce, zcf, zcg, zch, zci, zcj, zck, zcl, zcm, zcn, zco, zcp, zcq, zcr, zcs, zct, zcu, zcv, zcw, zcx, zcy, zcz, zda, zdb, zdc, zdd, zde, zdf, Option.getD_some, Option.getD_none, zet, zeu, zev, zew, zex, zey, zez, zfa, Option.map_some, Option.map_none, Option.bind_some, List.map_cons, List.map_nil, List.cons_append, List.nil_append, ↓reduceIte, Nat.reduceEqDiff, Nat.reduceAdd, decide_true, decide_false, Bool.true_eq_false, Bool.false_eq_true, env0, List.getElem?_cons_zero, List.getElem?_cons_succ, zdg, zdh, zdi, zdj, zdk, zdl, zdm, zdn, ia22, ld31, zdo, zdp, zdq, zdr, zds, zdt, zdu, zdv, zdw, zdx, zdy, zdz, zea, zeb, zec, fa_0, fa_1, zed, bd_0, bd_2, zee, fd_1, zef, Nat.zero_add, zeroT, den_loop]
  refine loop_ends (X := Nat) (fun i env st => env 0 = .sl (intsA xs) xs.length g ∧ env 2 = .ptr 2 1 0 ∧ env 4 = .int .i64 (i : Int) ∧ Ap st 22 (env 3) ((xs.take i).map intT) ∧ st 2 = ⟨1, .buf [.int .i64 0, .bool false, .sl [] 0 .nil, .str [], .int .i64 0, .sl [] 0 .nil]⟩ ∧ i ≤ 60 ∧ i ≤ xs.length) (fun i => 60 - i) (fun _ => (.tree (encT (listT ((xs.take 60).map intT) nilT')), [[]])) ?_ n 0 _ _ (by omega) ⟨(by first | (simp only [zfa, ↓reduceIte, Nat.reduceEqDiff, env0, List.getElem?_cons_zero]; done) | (simp only [zfa, ↓reduceIte, Nat.reduceEqDiff, env0, List.getElem?_cons_zero]; rfl)), (by first | (simp only [zfa, ↓reduceIte, Nat.reduceEqDiff]; done) | (simp only [zfa, ↓reduceIte, Nat.reduceEqDiff]; rfl)), (by first | (simp only [zfa, ↓reduceIte, Nat.reduceEqDiff]; done) | (simp only [zfa, ↓reduceIte, Nat.reduceEqDiff]; rfl)), .inl ⟨rfl, (by first | (simp only [zfa, ↓reduceIte, Nat.reduceEqDiff]; done) | (simp only [zfa, ↓reduceIte, Nat.reduceEqDiff]; rfl))⟩, (by first | (simp only [zfa, ↓reduceIte, Nat.reduceEqDiff]; done) | (simp only [zfa, ↓reduceIte, Nat.reduceEqDiff]; rfl)), by omega, Nat.zero_le _⟩
  intro rr i hr ih env st ⟨e0, e2, e4, ap, j2, hi, hi2⟩
  by_cases hlt : i < xs.length ∧ i < 60
  · obtain ⟨hlt, h60⟩ := hlt
    have q1 : (i : Int) < (xs.length : Int) := by omega
    have q2 : (i : Int) < 60 := by omega
    have c1 := fun D st => callA_trees (cfg := cfg0) (d := D) (s := st) (f := 25) (vs := [.int .i64 xs[i]]) rfl (rInt_eq n d hn xs[i] (hx _ (List.getElem_mem hlt)))
    simp only [encT] at c1
    obtain ⟨x', s', a1, a2, a3⟩ := ap.push (by simp; omega) (intT xs[i])
    have f5 := i_add Tryd.prog 3 (i : Int) 1 (by omega) (by omega)
    have ld := fun st => ldInts xs i hlt st
    have hm : (xs.take (i + 1)).map intT = (xs.take i).map intT ++ [intT xs[i]] := by rw [List.take_succ_eq_append_getElem hlt, List.map_append]; rfl
    simp only [zaa, zab, zac, zad, zae, zaf, zag, zah, zai, zaj, zak, zal, zam, zan, zao, zap, zaq, zar, zas, zat, zau, zav, zaw, zax, zay, zaz, zba, zbb, zbc, zbd, zbe, zbf, zbg, zbh, zbi, zbj, Nat.reduceBEq, Bool.or_self, Bool.or_false, Bool.or_true, Bool.and_true, Bool.and_false, Bool.true_and, Bool.false_and, Option.isNone_none, Option.isNone_some, Option.isSome_some, Option.isSome_none, zbk, zbl, zbm, zbn, zbo, zbp, zbq, zbr, zbs, zbt, zbu, zbv, zbw, zbx, zby, zbz, zca, zcb, zcc, zcd, zce, zcf, zcg, zch, zci, zcj, zck, zcl, zcm, zcn, zco, zcp, zcq, zcr, zcs, zct, zcu, zcv, zcw, zcx, zcy, zcz, zda, zdb, zdc, zdd, zde, zdf, Option.getD_some, Option.getD_none, zet, zeu, zev, zew, zex, zey, zez, zfa, Option.map_some, Option.map_none, Option.bind_some, List.map_cons, List.map_nil, List.cons_append, List.nil_append, ↓reduceIte, Nat.reduceEqDiff, Nat.reduceAdd, decide_true, decide_false, Bool.true_eq_false, Bool.false_eq_true, zdg, zdh, zdi, zdj, zdk, zdl, zdm, zdn, ia22, ld31, zdo, zdp, zdq, zdr, zds, zdt, zdu, zdv, zdw, zdx, zdy, zdz, zea, zeb, zec, fa_0, fa_1, zed, bd_0, bd_2, zee, fd_1, zef, Nat.zero_add, e0, e2, e4, lx, q1, q2, ix _ i hlt, ld, c1, opA_one26, one26_T, a1, f5]
    exact ih (i + 1) _ _ (by omega) rfl ⟨(by first | (simp only [zfa, ↓reduceIte, Nat.reduceEqDiff, e0]; done) | (simp only [zfa, ↓reduceIte, Nat.reduceEqDiff, e0]; rfl)), (by first | (simp only [zfa, ↓reduceIte, Nat.reduceEqDiff, e2]; done) | (simp only [zfa, ↓reduceIte, Nat.reduceEqDiff, e2]; rfl)), (by first | (simp only [zfa, ↓reduceIte, Nat.reduceEqDiff]; done) | (simp only [zfa, ↓reduceIte, Nat.reduceEqDiff]; rfl)), by rw [hm]; exact a2, by rw [a3 2 (by decide)]; exact j2, by omega, by omega⟩
  have hie : xs.take i = xs.take 60 := by
    by_cases h60 : i = 60
    · rw [h60]
    · rw [List.take_of_length_le (by omega), List.take_of_length_le (by omega)]
  rw [hie] at ap
  obtain ⟨hl1, hl2⟩ := ap.lent
  have hlen : ((xs.take 60).map intT).length ≤ 60 := by simp; omega
  have cl := fun D st => callA_loose (call := evalFn Tryd.prog cfg0 n (d+4)) (d := D) (s := st) (f := 8) (vs := [env 3, encT nilT']) (vs' := [.sl (cellsK ((xs.take 60).map intT)) ((xs.take 60).map intT).length (gr (kgOf ((xs.take 60).map intT))), encT nilT']) (by simp only [List.all_cons, hl1, encT, lent_T, List.all_nil, Bool.and_self]) (by simp only [List.map_cons, hl2]; rfl) (rList_eq n (d+3) ((xs.take 60).map intT) _ nilT' (by omega) (by omega))
  simp only [encT] at cl
  by_cases hlt1 : i < xs.length
  · have q1 : (i : Int) < (xs.length : Int) := by omega
    have q2 : ¬ (i : Int) < 60 := by omega
    simp only [zaa, zab, zac, zad, zae, zaf, zag, zah, zai, zaj, zak, zal, zam, zan, zao, zap, zaq, zar, zas, zat, zau, zav, zaw, zax, zay, zaz, zba, zbb, zbc, zbd, zbe, zbf, zbg, zbh, zbi, zbj, Nat.reduceBEq, Bool.or_self, Bool.or_false, Bool.or_true, Bool.and_true, Bool.and_false, Bool.true_and, Bool.false_and, Option.isNone_none, Option.isNone_some, Option.isSome_some, Option.isSome_none, zbk, zbl, zbm, zbn, zbo, zbp, zbq, zbr, zbs, zbt, zbu, zbv, zbw, zbx, zby, zbz, zca, zcb, zcc, zcd, zce, zcf, zcg, zch, zci, zcj, zck, zcl, zcm, zcn, zco, zcp, zcq, zcr, zcs, zct, zcu, zcv, zcw, zcx, zcy, zcz, zda, zdb, zdc, zdd, zde, zdf, Option.getD_some, Option.getD_none, zet, zeu, zev, zew, zex, zey, zez, zfa, Option.map_some, Option.map_none, Option.bind_some, List.map_cons, List.map_nil, List.cons_append, List.nil_append, ↓reduceIte, Nat.reduceEqDiff, Nat.reduceAdd, decide_true, decide_false, Bool.true_eq_false, Bool.false_eq_true, zdg, zdh, zdi, zdj, zdk, zdl, zdm, zdn, ia22, ld31, zdo, zdp, zdq, zdr, zds, zdt, zdu, zdv, zdw, zdx, zdy, zdz, zea, zeb, zec, fa_0, fa_1, zed, bd_0, bd_2, zee, fd_1, zef, Nat.zero_add, e0, e2, e4, lx, j2, q1, q2, bdN3, cl, st_Tt, stT_6]
    exact finish_cT _ _ _ _ _ (listT ((xs.take 60).map intT) nilT') _ _ _ (by first | (simp only [zfa, ↓reduceIte, Nat.reduceEqDiff, e2]; done) | (simp only [zfa, ↓reduceIte, Nat.reduceEqDiff, e2]; rfl)) (by first | (simp only [zfa, ↓reduceIte, Nat.reduceEqDiff]; done) | (simp only [zfa, ↓reduceIte, Nat.reduceEqDiff]; rfl)) rfl
  · have q1 : ¬ (i : Int) < (xs.length : Int) := by omega
    simp only [zaa, zab, zac, zad, zae, zaf, zag, zah, zai, zaj, zak, zal, zam, zan, zao, zap, zaq, zar, zas, zat, zau, zav, zaw, zax, zay, zaz, zba, zbb, zbc, zbd, zbe, zbf, zbg, zbh, zbi, zbj, Nat.reduceBEq, Bool.or_self, Bool.or_false, Bool.or_true, Bool.and_true, Bool.and_false, Bool.true_and, Bool.false_and, Option.isNone_none, Option.isNone_some, Option.isSome_some, Option.isSome_none, zbk, zbl, zbm, zbn, zbo, zbp, zbq, zbr, zbs, zbt, zbu, zbv, zbw, zbx, zby, zbz, zca, zcb, zcc, zcd, zce, zcf, zcg, zch, zci, zcj, zck, zcl, zcm, zcn, zco, zcp, zcq, zcr, zcs, zct, zcu, zcv, zcw, zcx, zcy, zcz, zda, zdb, zdc, zdd, zde, zdf, Option.getD_some, Option.getD_none, zet, zeu, zev, zew, zex, zey, zez, zfa, Option.map_some, Option.map_none, Option.bind_some, List.map_cons, List.map_nil, List.cons_append, List.nil_append, ↓reduceIte, Nat.reduceEqDiff, Nat.reduceAdd, decide_true, decide_false, Bool.true_eq_false, Bool.false_eq_true, zdg, zdh, zdi, zdj, zdk, zdl, zdm, zdn, ia22, ld31, zdo, zdp, zdq, zdr, zds, zdt, zdu, zdv, zdw, zdx, zdy, zdz, zea, zeb, zec, fa_0, fa_1, zed, bd_0, bd_2, zee, fd_1, zef, Nat.zero_add, e0, e2, e4, lx, j2, q1, bdN3, cl, st_Tt, stT_6]
    exact finish_cT _ _ _ _ _ (listT ((xs.take 60).map intT) nilT') _ _ _ (by first | (simp only [zfa, ↓reduceIte, Nat.reduceEqDiff, e2]; done) | (simp only [zfa, ↓reduceIte, Nat.reduceEqDiff, e2]; rfl)) (by first | (simp only [zfa, ↓reduceIte, Nat.reduceEqDiff]; done) | (simp only [zfa, ↓reduceIte, Nat.reduceEqDiff]; rfl)) rfl
end Go.Ab

/- bif.Call by these names: integer_to_list, atom_to_list, length. Conditions: so many nodes at most. -/
namespace Go.Ab
open Go.Proofs
set_option maxRecDepth 100000
set_option linter.unusedSimpArgs false

def sErl : List UInt8 := [101, 114, 108, 97, 110, 103]
def sItl : List UInt8 := [105, 110, 116, 101, 103, 101, 114, 95, 116, 111, 95, 108, 105, 115, 116]
def sAtl : List UInt8 := [97, 116, 111, 109, 95, 116, 111, 95, 108, 105, 115, 116]
def sLen : List UInt8 := [108, 101, 110, 103, 116, 104]
def five : List AV := [.str [104, 100], .str [116, 108], .str [116, 117, 112, 108, 101, 95, 115, 105, 122, 101], .str [98, 121, 116, 101, 95, 115, 105, 122, 101], .str [108, 101, 110, 103, 116, 104]]
def throws : List AV := [.str [101, 114, 114, 111, 114], .str [101, 120, 105, 116], .str [116, 104, 114, 111, 119]]
theorem hasItl : evalFn Tryd.prog cfg0 100000 20 19 [.tree (.str sErl), .tree (.str sItl), .tree (.int .i64 1)] = some (.tree (.bool true), [[], [], []]) := by kernel_rfl
theorem contItl : evalFn Tryd.prog cfg0 100000 20 21 [.tree (.sl throws 3 .tight), .tree (.str sItl)] = some (.tree (.bool false), [[], []]) := by kernel_rfl
theorem idxItl : evalFn Tryd.prog cfg0 100000 20 33 [.tree (.sl five 5 .tight), .tree (.str sItl)] = some (.tree (.int .i64 (-1)), [[], []]) := by kernel_rfl
theorem hasAtl : evalFn Tryd.prog cfg0 100000 20 19 [.tree (.str sErl), .tree (.str sAtl), .tree (.int .i64 1)] = some (.tree (.bool true), [[], [], []]) := by kernel_rfl
theorem contAtl : evalFn Tryd.prog cfg0 100000 20 21 [.tree (.sl throws 3 .tight), .tree (.str sAtl)] = some (.tree (.bool false), [[], []]) := by kernel_rfl
theorem idxAtl : evalFn Tryd.prog cfg0 100000 20 33 [.tree (.sl five 5 .tight), .tree (.str sAtl)] = some (.tree (.int .i64 (-1)), [[], []]) := by kernel_rfl
theorem hasLen : evalFn Tryd.prog cfg0 100000 20 19 [.tree (.str sErl), .tree (.str sLen), .tree (.int .i64 1)] = some (.tree (.bool true), [[], [], []]) := by kernel_rfl
theorem contLen : evalFn Tryd.prog cfg0 100000 20 21 [.tree (.sl throws 3 .tight), .tree (.str sLen)] = some (.tree (.bool false), [[], []]) := by kernel_rfl
theorem idxLen : evalFn Tryd.prog cfg0 100000 20 33 [.tree (.sl five 5 .tight), .tree (.str sLen)] = some (.tree (.int .i64 (4)), [[], []]) := by kernel_rfl
def five64 (a b c d e : AV) : Option AV := (fillA (fun i => some (i * 1, 1)) (rep 5 [.str []]) [(0, a), (1, b), (2, c), (3, d), (4, e)]).map (.sl · 5 .tight)
theorem five64_str (a b c d e : List UInt8) : five64 (.str a) (.str b) (.str c) (.str d) (.str e) = some (.sl [.str a, .str b, .str c, .str d, .str e] 5 .tight) := rfl
theorem opA_five64 (call : FuncId → List Arg → Option Out) (q : Bool) (d : Option Tmp) (ty : TypeId) (pos : String) (af : Array Edge) (g : Option (Nat × Bool)) (t : Nat) (env : Env) (s : St) (x1 x2 x3 x4 x5 : Operand) :
    opA Tryd.prog cfg0 call q ⟨d, .buildSlice 53 5 #[(0, x1), (1, x2), (2, x3), (3, x4), (4, x5)], ty, pos, af, g⟩ t env s = (five64 (ev env x1) (ev env x2) (ev env x3) (ev env x4) (ev env x5)).map (·, s) := by
  rw [opA_bs]
  simp only [tk64, esz9, zero9, Option.bind_some, List.map_cons, List.map_nil]
  rfl
def three64 (a b c : AV) : Option AV := (fillA (fun i => some (i * 1, 1)) (rep 3 [.str []]) [(0, a), (1, b), (2, c)]).map (.sl · 3 .tight)
theorem three64_str (a b c : List UInt8) : three64 (.str a) (.str b) (.str c) = some (.sl [.str a, .str b, .str c] 3 .tight) := rfl
theorem opA_three64 (call : FuncId → List Arg → Option Out) (q : Bool) (d : Option Tmp) (ty : TypeId) (pos : String) (af : Array Edge) (g : Option (Nat × Bool)) (t : Nat) (env : Env) (s : St) (x1 x2 x3 : Operand) :
    opA Tryd.prog cfg0 call q ⟨d, .buildSlice 53 3 #[(0, x1), (1, x2), (2, x3)], ty, pos, af, g⟩ t env s = (three64 (ev env x1) (ev env x2) (ev env x3)).map (·, s) := by
  rw [opA_bs]
  simp only [tk64, esz9, zero9, Option.bind_some, List.map_cons, List.map_nil]
  rfl
/-! ### What is thrown, as a struct -/
def zErr : List AV := [.str [], .int .i64 0, .bool false, .sl [] 0 .nil, .str [], .int .i64 0, .sl [] 0 .nil]
theorem tkE : tkOf Tryd.prog 33 = .st := by kernel_rfl
theorem eszE : esz Tryd.prog 33 = some 7 := by kernel_rfl
theorem shE : shOf Tryd.prog 33 = some (true, 7) := by kernel_rfl
theorem zeroE : zeroOf Tryd.prog 33 = some zErr := by kernel_rfl
theorem plE : placesA Tryd.prog 33 = some [(0, 1), (1, 6)] := by kernel_rfl
theorem bdE_ : buildA Tryd.prog 33 [] = some (.agg zErr) := by
  simp only [buildA, zeroE, tkE, plE, Option.bind_some, fillA]; rfl
theorem st_E (s : St) (p k : Nat) : storeA Tryd.prog 33 s (.ptr p k 0) (.agg zErr) = stT (s p) p k s zErr := by
  simp only [storeA, settle, Option.bind_some, stT]
  cases h : s p with
  | mk t c => cases c <;> simp [eszE, zErr]
theorem stE_z (t k p : Nat) (s : St) : stT ⟨t, .buf zErr⟩ p k s zErr = if t = k then some (upd s p ⟨t, .buf zErr⟩) else none := by
  simp [stT, splice, zErr]
theorem ldE_z (t k : Nat) : ldE Tryd.prog 33 ⟨t, .buf zErr⟩ k 0 = if t = k then some (.agg zErr) else none := by
  rw [ldE, cellsE_buf]
  by_cases h : t = k
  · simp [h, partA, shE, zErr]
  · simp [h]
theorem finish_T2 (k : Bool) (xs : List Arg) (a p e : Nat) (u : T) (t : Nat) (v : Bool) (env : Env) (s : St) (os : List (List AV)) (ha : env a = .ptr p e 0) (hs : s p = ⟨e, .buf (cellsT u)⟩) (hv : env t = .bool v) (ho : outsA s 0 xs = some os) :
    finishP Tryd.prog k xs #[.cell a 29, .tmp t] env s = some (.tree (.tup [encT u, .bool v]), os) := by
  have hl : loadA Tryd.prog 29 s (env a) = some (.agg (cellsT u)) := by rw [ha, zdx, hs, ldT_u, if_pos rfl]
  simp [finishP, isTmpR, rvA, hl, hv, settleL, settle, ho, encT]
theorem finish_T3 (k : Bool) (xs : List Arg) (a p e : Nat) (u : T) (b q e' : Nat) (t : Nat) (v : Bool) (env : Env) (s : St) (os : List (List AV)) (ha : env a = .ptr p e 0) (hs : s p = ⟨e, .buf (cellsT u)⟩) (hb : env b = .ptr q e' 0) (hq : s q = ⟨e', .buf zErr⟩) (hv : env t = .bool v) (ho : outsA s 0 xs = some os) :
    finishP Tryd.prog k xs #[.cell a 29, .cell b 33, .tmp t] env s = some (.tree (.tup [encT u, .agg zErr, .bool v]), os) := by
  have hl : loadA Tryd.prog 29 s (env a) = some (.agg (cellsT u)) := by rw [ha, zdx, hs, ldT_u, if_pos rfl]
  have hl2 : loadA Tryd.prog 33 s (env b) = some (.agg zErr) := by rw [hb, zdx, hq, ldE_z, if_pos rfl]
  simp [finishP, isTmpR, rvA, hl, hl2, hv, settleL, settle, ho, encT]
set_option maxHeartbeats 4000000 in
theorem oneItl_eq (R d : Nat) (hR : 100000 ≤ R) (hd : 20 ≤ d) (b : Bool) (g : Gk) (l : List Nat) (hl : Limbs l) (hlt : (textZ (numZ b l)).length ≤ 10000) : evalFn Tryd.prog cfg0 R (d+1) 34 [.tree (.str sItl), .tree (encT (.mk 1 b g l [] 0 .n []))] = some (.tree (.tup [encT (listT (txtT (textZ (numZ b l))) nilT'), .bool true]), [[], []]) := by
  rw [evalFn_go _ Tryd.func34 (by unfold Tryd.f34; rfl) (by unfold Tryd.f34; decide) (Nat.le_of_ble_eq_true (by unfold Tryd.f34; rfl)) (by kernel_rfl)]
  have w0 : (sItl == ([108, 105, 115, 116, 95, 116, 111, 95, 116, 117, 112, 108, 101] : List UInt8)) = false := by decide
  have w1 : (sItl == ([114, 101, 118, 101, 114, 115, 101] : List UInt8)) = false := by decide
  have w2 : (sItl == ([116, 117, 112, 108, 101, 95, 116, 111, 95, 108, 105, 115, 116] : List UInt8)) = false := by decide
  have w3 : (sItl == ([105, 110, 116, 101, 103, 101, 114, 95, 116, 111, 95, 108, 105, 115, 116] : List UInt8)) = true := by decide
  have w4 : (sItl == ([97, 116, 111, 109, 95, 116, 111, 95, 108, 105, 115, 116] : List UInt8)) = false := by decide
  have w5 : (sItl == ([101, 114, 108, 97, 110, 103] : List UInt8)) = false := by decide
  have ci := fun D st => callA_trees (cfg := cfg0) (d := D) (s := st) (f := 33) (vs := [.sl five 5 .tight, .str sItl]) rfl (evalFn_mono (show 100000 ≤ R by omega) 20 d (by omega) _ _ _ idxItl)
  simp only [five] at ci
  obtain ⟨d', rfl⟩ : ∃ d', d = d' + 6 := ⟨d - 6, by omega⟩
  have ct := fun D st => callA_trees (cfg := cfg0) (d := D) (s := st) (f := 53) (vs := [encT (.mk 1 b g l [] 0 .n [])]) rfl (items_eq R (by omega) (d'+5) (.mk 1 b g l [] 0 .n []))
  have hi : itemsT (.mk 1 b g l [] 0 .n []) = none := rfl
  rw [hi] at ct
  simp only [itemsV] at ct
  have cx := fun D st => callA_trees (cfg := cfg0) (d := D) (s := st) (f := 16) (vs := [encA b g l]) (by cases g <;> rfl) (text_eq R d' (by omega) (isN_A b g l hl))
  have cb := fun D st => callA_trees (cfg := cfg0) (d := D) (s := st) (f := 57) (vs := [.str (textZ (numZ b l))]) rfl (btext_eq R (d'+1) (by omega) _ hlt)
  simp only [encT, encA] at cx cb
  simp only [encT, cellsT] at ct
  have q1 : ¬ ((-1 : Int) ≥ 0) := by decide
  simp only [zaa, zab, zac, zad, zae, zaf, zag, zah, zai, zaj, zak, zal, zam, zan, zao, zap, zaq, zar, zas, zat, zau, zav, zaw, zax, zay, zaz, zba, zbb, zbc, zbd, zbe, zbf, zbg, zbh, zbi, zbj, Nat.reduceBEq, Bool.or_self, Bool.or_false, Bool.or_true, Bool.and_true, Bool.and_false, Bool.true_and, Bool.false_and, Option.isNone_none, Option.isNone_some, Option.isSome_some, Option.isSome_none, zbk, zbl, zbm, zbn, zbo, zbp, zbq, zbr, zbs, zbt, zbu, zbv, zbw, zbx, zby, zbz, zca, zcb, zcc, zcd, zce, zcf, zcg, zch, zci, zcj, zck, zcl, zcm, zcn, zco, zcp, zcq, zcr, zcs, zct, zcu, zcv, zcw, zcx, zcy, zcz, zda, zdb, zdc, zdd, zde, zdf, Option.getD_some, Option.getD_none, zet, zeu, zev, zew, zex, zey, zez, zfa, Option.map_some, Option.map_none, Option.bind_some, List.map_cons, List.map_nil, List.cons_append, List.nil_append, ↓reduceIte, Nat.reduceEqDiff, Nat.reduceAdd, decide_true, decide_false, Bool.true_eq_false, Bool.false_eq_true, env0, List.getElem?_cons_zero, List.getElem?_cons_succ, zdg, zdh, zdi, zdj, zdk, zdl, zdm, zdn, ia22, ld31, zdo, zdp, zdq, zdr, zds, zdt, zdu, zdv, zdw, zdx, zdy, zdz, zea, zeb, zec, fa_0, fa_1, zed, bd_0, bd_2, zee, fd_1, zef, Nat.zero_add, zeg, List.toList_toArray, len9, ix9, zeh, zei, zej, zek, zel, zeroT, encT, opA_five64, five64_str, ci, q1, ct, cellsT, ldT_a, ldT_0, ldT_1, ldT_2, zdf, s_eqlS, w0, w1, w2, w3, w4, i_eqlV, Int.reduceBEq, faT_0, faT_1, faT_2, cx, cb, st_Tt, stT_6]
  exact finish_T2 _ _ _ _ _ (listT (txtT (textZ (numZ b l))) nilT') _ _ _ _ _ (by first | (simp only [zfa, ↓reduceIte, Nat.reduceEqDiff]; done) | (simp only [zfa, ↓reduceIte, Nat.reduceEqDiff]; rfl)) (by first | (simp only [zfa, ↓reduceIte, Nat.reduceEqDiff]; done) | (simp only [zfa, ↓reduceIte, Nat.reduceEqDiff]; rfl)) (by first | (simp only [zfa, ↓reduceIte, Nat.reduceEqDiff]; done) | (simp only [zfa, ↓reduceIte, Nat.reduceEqDiff]; rfl)) rfl
set_option maxHeartbeats 4000000 in
theorem oneAtl_eq (R d : Nat) (hR : 100000 ≤ R) (hd : 20 ≤ d) (s : List UInt8) (hlt : s.length ≤ 10000) : evalFn Tryd.prog cfg0 R (d+1) 34 [.tree (.str sAtl), .tree (encT (.mk 2 false .n [] s 0 .n []))] = some (.tree (.tup [encT (listT (txtT (s)) nilT'), .bool true]), [[], []]) := by
  rw [evalFn_go _ Tryd.func34 (by unfold Tryd.f34; rfl) (by unfold Tryd.f34; decide) (Nat.le_of_ble_eq_true (by unfold Tryd.f34; rfl)) (by kernel_rfl)]
  have w0 : (sAtl == ([108, 105, 115, 116, 95, 116, 111, 95, 116, 117, 112, 108, 101] : List UInt8)) = false := by decide
  have w1 : (sAtl == ([114, 101, 118, 101, 114, 115, 101] : List UInt8)) = false := by decide
  have w2 : (sAtl == ([116, 117, 112, 108, 101, 95, 116, 111, 95, 108, 105, 115, 116] : List UInt8)) = false := by decide
  have w3 : (sAtl == ([105, 110, 116, 101, 103, 101, 114, 95, 116, 111, 95, 108, 105, 115, 116] : List UInt8)) = false := by decide
  have w4 : (sAtl == ([97, 116, 111, 109, 95, 116, 111, 95, 108, 105, 115, 116] : List UInt8)) = true := by decide
  have w5 : (sAtl == ([101, 114, 108, 97, 110, 103] : List UInt8)) = false := by decide
  have ci := fun D st => callA_trees (cfg := cfg0) (d := D) (s := st) (f := 33) (vs := [.sl five 5 .tight, .str sAtl]) rfl (evalFn_mono (show 100000 ≤ R by omega) 20 d (by omega) _ _ _ idxAtl)
  simp only [five] at ci
  obtain ⟨d', rfl⟩ : ∃ d', d = d' + 6 := ⟨d - 6, by omega⟩
  have ct := fun D st => callA_trees (cfg := cfg0) (d := D) (s := st) (f := 53) (vs := [encT (.mk 2 false .n [] s 0 .n [])]) rfl (items_eq R (by omega) (d'+5) (.mk 2 false .n [] s 0 .n []))
  have hi : itemsT (.mk 2 false .n [] s 0 .n []) = none := rfl
  rw [hi] at ct
  simp only [itemsV] at ct
  have cb := fun D st => callA_trees (cfg := cfg0) (d := D) (s := st) (f := 57) (vs := [.str (s)]) rfl (btext_eq R (d'+1) (by omega) _ hlt)
  simp only [encT] at cb
  simp only [encT, cellsT] at ct
  have q1 : ¬ ((-1 : Int) ≥ 0) := by decide
  simp only [zaa, zab, zac, zad, zae, zaf, zag, zah, zai, zaj, zak, zal, zam, zan, zao, zap, zaq, zar, zas, zat, zau, zav, zaw, zax, zay, zaz, zba, zbb, zbc, zbd, zbe, zbf, zbg, zbh, zbi, zbj, Nat.reduceBEq, Bool.or_self, Bool.or_false, Bool.or_true, Bool.and_true, Bool.and_false, Bool.true_and, Bool.false_and, Option.isNone_none, Option.isNone_some, Option.isSome_some, Option.isSome_none, zbk, zbl, zbm, zbn, zbo, zbp, zbq, zbr, zbs, zbt, zbu, zbv, zbw, zbx, zby, zbz, zca, zcb, zcc, zcd, zce, zcf, zcg, zch, zci, zcj, zck, zcl, zcm, zcn, zco, zcp, zcq, zcr, zcs, zct, zcu, zcv, zcw, zcx, zcy, zcz, zda, zdb, zdc, zdd, zde, zdf, Option.getD_some, Option.getD_none, zet, zeu, zev, zew, zex, zey, zez, zfa, Option.map_some, Option.map_none, Option.bind_some, List.map_cons, List.map_nil, List.cons_append, List.nil_append, ↓reduceIte, Nat.reduceEqDiff, Nat.reduceAdd, decide_true, decide_false, Bool.true_eq_false, Bool.false_eq_true, env0, List.getElem?_cons_zero, List.getElem?_cons_succ, zdg, zdh, zdi, zdj, zdk, zdl, zdm, zdn, ia22, ld31, zdo, zdp, zdq, zdr, zds, zdt, zdu, zdv, zdw, zdx, zdy, zdz, zea, zeb, zec, fa_0, fa_1, zed, bd_0, bd_2, zee, fd_1, zef, Nat.zero_add, zeg, List.toList_toArray, len9, ix9, zeh, zei, zej, zek, zel, zeroT, encT, opA_five64, five64_str, ci, q1, ct, cellsT, ldT_a, ldT_0, ldT_1, ldT_2, zdf, s_eqlS, w0, w1, w2, w3, w4, i_eqlV, Int.reduceBEq, faT_0, faT_1, faT_2, cb, st_Tt, stT_6]
  exact finish_T2 _ _ _ _ _ (listT (txtT (s)) nilT') _ _ _ _ _ (by first | (simp only [zfa, ↓reduceIte, Nat.reduceEqDiff]; done) | (simp only [zfa, ↓reduceIte, Nat.reduceEqDiff]; rfl)) (by first | (simp only [zfa, ↓reduceIte, Nat.reduceEqDiff]; done) | (simp only [zfa, ↓reduceIte, Nat.reduceEqDiff]; rfl)) (by first | (simp only [zfa, ↓reduceIte, Nat.reduceEqDiff]; done) | (simp only [zfa, ↓reduceIte, Nat.reduceEqDiff]; rfl)) rfl
theorem one26_K1 (e : T) : one26 (.agg (cellsT e)) = some (.sl (cellsK [e]) 1 .tight) := one26_K e
theorem ia_K1 (st : St) (t : T) : indexAddrA Tryd.prog 22 st (.sl (cellsK [t]) 1 .tight) (.int .i64 0) = some (.rptr (cellsK [t])) := ia_K st [t] .tight 0 Nat.zero_lt_one
theorem ld_K1 (st : St) (t : T) (r : List T) : loadA Tryd.prog 29 st (.rptr (cellsK (t :: r))) = some (.agg (cellsT t)) := ld_K st t r
set_option maxHeartbeats 4000000 in
theorem One5_eq (R d : Nat) (hR : 100000 ≤ R) (t : T) (us : List T) (h : itemsT t = some us) (hl : us.length ≤ 1000000) : evalFn Tryd.prog cfg0 R (d+6) 52 [.tree (.int .i64 5), .tree (encT t)] = some (.tree (.tup [encT (smallT (us.length : Int)), .bool true]), [[], []]) := by
  rw [evalFn_go _ Tryd.func52 (by unfold Tryd.f52; rfl) (by unfold Tryd.f52; decide) (Nat.le_of_ble_eq_true (by unfold Tryd.f52; rfl)) (by kernel_rfl)]
  have ct := fun D st => callA_trees (cfg := cfg0) (d := D) (s := st) (f := 53) (vs := [encT t]) rfl (items_eq R (by omega) (d+4) t)
  rw [h] at ct
  have cn := fun D st => callA_trees (cfg := cfg0) (d := D) (s := st) (f := 70) (vs := [.int .i64 (us.length : Int)]) rfl (number_eq R (d+1) hR (us.length : Int) ⟨by omega, by omega⟩)
  obtain ⟨k, n1, lg, l, s1, i1, kg, ks⟩ := t
  simp only [encT, cellsT, itemsV] at ct
  simp only [encT] at cn
  by_cases h4 : k = 4
  · subst h4
    simp only [zaa, zab, zac, zad, zae, zaf, zag, zah, zai, zaj, zak, zal, zam, zan, zao, zap, zaq, zar, zas, zat, zau, zav, zaw, zax, zay, zaz, zba, zbb, zbc, zbd, zbe, zbf, zbg, zbh, zbi, zbj, Nat.reduceBEq, Bool.or_self, Bool.or_false, Bool.or_true, Bool.and_true, Bool.and_false, Bool.true_and, Bool.false_and, Option.isNone_none, Option.isNone_some, Option.isSome_some, Option.isSome_none, zbk, zbl, zbm, zbn, zbo, zbp, zbq, zbr, zbs, zbt, zbu, zbv, zbw, zbx, zby, zbz, zca, zcb, zcc, zcd, zce, zcf, zcg, zch, zci, zcj, zck, zcl, zcm, zcn, zco, zcp, zcq, zcr, zcs, zct, zcu, zcv, zcw, zcx, zcy, zcz, zda, zdb, zdc, zdd, zde, zdf, Option.getD_some, Option.getD_none, zet, zeu, zev, zew, zex, zey, zez, zfa, Option.map_some, Option.map_none, Option.bind_some, List.map_cons, List.map_nil, List.cons_append, List.nil_append, ↓reduceIte, Nat.reduceEqDiff, Nat.reduceAdd, decide_true, decide_false, Bool.true_eq_false, Bool.false_eq_true, env0, List.getElem?_cons_zero, List.getElem?_cons_succ, zdg, zdh, zdi, zdj, zdk, zdl, zdm, zdn, ia22, ld31, zdo, zdp, zdq, zdr, zds, zdt, zdu, zdv, zdw, zdx, zdy, zdz, zea, zeb, zec, fa_0, fa_1, zed, bd_0, bd_2, zee, fd_1, zef, Nat.zero_add, zeroT, encT, cellsT, ldT_a, ldT_0, ldT_4, zdf, i_eqlV, Int.reduceBEq, faT_0, faT_4, Nat.reduceAdd, lenTk, ct, cn, st_Tt, stT_6]
    exact finish_T2 _ _ _ _ _ (smallT (us.length : Int)) _ _ _ _ _ (by first | (simp only [zfa, ↓reduceIte, Nat.reduceEqDiff]; done) | (simp only [zfa, ↓reduceIte, Nat.reduceEqDiff]; rfl)) (by first | (simp only [zfa, ↓reduceIte, Nat.reduceEqDiff]; done) | (simp only [zfa, ↓reduceIte, Nat.reduceEqDiff]; rfl)) (by first | (simp only [zfa, ↓reduceIte, Nat.reduceEqDiff]; done) | (simp only [zfa, ↓reduceIte, Nat.reduceEqDiff]; rfl)) rfl
  · have b4 : (k == 4) = false := beq_eq_false_iff_ne.mpr h4
    simp only [zaa, zab, zac, zad, zae, zaf, zag, zah, zai, zaj, zak, zal, zam, zan, zao, zap, zaq, zar, zas, zat, zau, zav, zaw, zax, zay, zaz, zba, zbb, zbc, zbd, zbe, zbf, zbg, zbh, zbi, zbj, Nat.reduceBEq, Bool.or_self, Bool.or_false, Bool.or_true, Bool.and_true, Bool.and_false, Bool.true_and, Bool.false_and, Option.isNone_none, Option.isNone_some, Option.isSome_some, Option.isSome_none, zbk, zbl, zbm, zbn, zbo, zbp, zbq, zbr, zbs, zbt, zbu, zbv, zbw, zbx, zby, zbz, zca, zcb, zcc, zcd, zce, zcf, zcg, zch, zci, zcj, zck, zcl, zcm, zcn, zco, zcp, zcq, zcr, zcs, zct, zcu, zcv, zcw, zcx, zcy, zcz, zda, zdb, zdc, zdd, zde, zdf, Option.getD_some, Option.getD_none, zet, zeu, zev, zew, zex, zey, zez, zfa, Option.map_some, Option.map_none, Option.bind_some, List.map_cons, List.map_nil, List.cons_append, List.nil_append, ↓reduceIte, Nat.reduceEqDiff, Nat.reduceAdd, decide_true, decide_false, Bool.true_eq_false, Bool.false_eq_true, env0, List.getElem?_cons_zero, List.getElem?_cons_succ, zdg, zdh, zdi, zdj, zdk, zdl, zdm, zdn, ia22, ld31, zdo, zdp, zdq, zdr, zds, zdt, zdu, zdv, zdw, zdx, zdy, zdz, zea, zeb, zec, fa_0, fa_1, zed, bd_0, bd_2, zee, fd_1, zef, Nat.zero_add, zeroT, encT, cellsT, ldT_a, ldT_0, ldT_4, zdf, i_eqlV, b4, Int.reduceBEq, faT_0, faT_4, Nat.reduceAdd, lenTk, ct, cn, st_Tt, stT_6]
    exact finish_T2 _ _ _ _ _ (smallT (us.length : Int)) _ _ _ _ _ (by first | (simp only [zfa, ↓reduceIte, Nat.reduceEqDiff]; done) | (simp only [zfa, ↓reduceIte, Nat.reduceEqDiff]; rfl)) (by first | (simp only [zfa, ↓reduceIte, Nat.reduceEqDiff]; done) | (simp only [zfa, ↓reduceIte, Nat.reduceEqDiff]; rfl)) (by first | (simp only [zfa, ↓reduceIte, Nat.reduceEqDiff]; done) | (simp only [zfa, ↓reduceIte, Nat.reduceEqDiff]; rfl)) rfl
set_option maxHeartbeats 4000000 in
theorem oneLen_eq (R d : Nat) (hR : 100000 ≤ R) (hd : 20 ≤ d) (t : T) (us : List T) (h : itemsT t = some us) (hl : us.length ≤ 1000000) : evalFn Tryd.prog cfg0 R (d+1) 34 [.tree (.str sLen), .tree (encT t)] = some (.tree (.tup [encT (smallT (us.length : Int)), .bool true]), [[], []]) := by
  rw [evalFn_go _ Tryd.func34 (by unfold Tryd.f34; rfl) (by unfold Tryd.f34; decide) (Nat.le_of_ble_eq_true (by unfold Tryd.f34; rfl)) (by kernel_rfl)]
  have ci := fun D st => callA_trees (cfg := cfg0) (d := D) (s := st) (f := 33) (vs := [.sl five 5 .tight, .str sLen]) rfl (evalFn_mono (show 100000 ≤ R by omega) 20 d (by omega) _ _ _ idxLen)
  simp only [five] at ci
  obtain ⟨d', rfl⟩ : ∃ d', d = d' + 6 := ⟨d - 6, by omega⟩
  have ct := fun D st => callA_trees (cfg := cfg0) (d := D) (s := st) (f := 52) (vs := [.int .i64 5, encT t]) rfl (One5_eq R d' hR t us h hl)
  simp only [encT] at ct
  have q1 : ((4 : Int) ≥ 0) := by decide
  have f5 := i_add Tryd.prog 3 (4 : Int) 1 (by omega) (by omega)
  simp only [zaa, zab, zac, zad, zae, zaf, zag, zah, zai, zaj, zak, zal, zam, zan, zao, zap, zaq, zar, zas, zat, zau, zav, zaw, zax, zay, zaz, zba, zbb, zbc, zbd, zbe, zbf, zbg, zbh, zbi, zbj, Nat.reduceBEq, Bool.or_self, Bool.or_false, Bool.or_true, Bool.and_true, Bool.and_false, Bool.true_and, Bool.false_and, Option.isNone_none, Option.isNone_some, Option.isSome_some, Option.isSome_none, zbk, zbl, zbm, zbn, zbo, zbp, zbq, zbr, zbs, zbt, zbu, zbv, zbw, zbx, zby, zbz, zca, zcb, zcc, zcd, zce, zcf, zcg, zch, zci, zcj, zck, zcl, zcm, zcn, zco, zcp, zcq, zcr, zcs, zct, zcu, zcv, zcw, zcx, zcy, zcz, zda, zdb, zdc, zdd, zde, zdf, Option.getD_some, Option.getD_none, zet, zeu, zev, zew, zex, zey, zez, zfa, Option.map_some, Option.map_none, Option.bind_some, List.map_cons, List.map_nil, List.cons_append, List.nil_append, ↓reduceIte, Nat.reduceEqDiff, Nat.reduceAdd, decide_true, decide_false, Bool.true_eq_false, Bool.false_eq_true, env0, List.getElem?_cons_zero, List.getElem?_cons_succ, zdg, zdh, zdi, zdj, zdk, zdl, zdm, zdn, ia22, ld31, zdo, zdp, zdq, zdr, zds, zdt, zdu, zdv, zdw, zdx, zdy, zdz, zea, zeb, zec, fa_0, fa_1, zed, bd_0, bd_2, zee, fd_1, zef, Nat.zero_add, zeg, List.toList_toArray, len9, ix9, zeh, zei, zej, zek, zel, zeroT, encT, opA_five64, five64_str, ci, q1, f5, Int.reduceAdd, ldT_u, ct, zdf, st_Tt, stT_6]
  exact finish_T2 _ _ _ _ _ (smallT (us.length : Int)) _ _ _ _ _ (by first | (simp only [zfa, ↓reduceIte, Nat.reduceEqDiff]; done) | (simp only [zfa, ↓reduceIte, Nat.reduceEqDiff]; rfl)) (by first | (simp only [zfa, ↓reduceIte, Nat.reduceEqDiff]; done) | (simp only [zfa, ↓reduceIte, Nat.reduceEqDiff]; rfl)) (by first | (simp only [zfa, ↓reduceIte, Nat.reduceEqDiff]; done) | (simp only [zfa, ↓reduceIte, Nat.reduceEqDiff]; rfl)) rfl
set_option maxHeartbeats 4000000 in
theorem answer1_eq (R d : Nat) (name : List UInt8) (t u : T) (v : Bool) (h : evalFn Tryd.prog cfg0 R d 34 [.tree (.str name), .tree (encT t)] = some (.tree (.tup [encT u, .bool v]), [[], []])) :
    evalFn Tryd.prog cfg0 R (d+1) 22 [.tree (.str name), .tree (.sl (cellsK [t]) 1 .tight)] = some (.tree (.tup [encT u, .bool v]), [[], []]) := by
  rw [evalFn_go _ Tryd.func22 (by unfold Tryd.f22; rfl) (by unfold Tryd.f22; decide) (Nat.le_of_ble_eq_true (by unfold Tryd.f22; rfl)) (by kernel_rfl)]
  have c := fun D st => callA_trees (cfg := cfg0) (d := D) (s := st) (f := 34) (vs := [.str name, encT t]) rfl h
  simp only [encT] at c
  have q1 : (((1 : Nat) : Int) == 1) = true := rfl
  simp only [zaa, zab, zac, zad, zae, zaf, zag, zah, zai, zaj, zak, zal, zam, zan, zao, zap, zaq, zar, zas, zat, zau, zav, zaw, zax, zay, zaz, zba, zbb, zbc, zbd, zbe, zbf, zbg, zbh, zbi, zbj, Nat.reduceBEq, Bool.or_self, Bool.or_false, Bool.or_true, Bool.and_true, Bool.and_false, Bool.true_and, Bool.false_and, Option.isNone_none, Option.isNone_some, Option.isSome_some, Option.isSome_none, zbk, zbl, zbm, zbn, zbo, zbp, zbq, zbr, zbs, zbt, zbu, zbv, zbw, zbx, zby, zbz, zca, zcb, zcc, zcd, zce, zcf, zcg, zch, zci, zcj, zck, zcl, zcm, zcn, zco, zcp, zcq, zcr, zcs, zct, zcu, zcv, zcw, zcx, zcy, zcz, zda, zdb, zdc, zdd, zde, zdf, Option.getD_some, Option.getD_none, zet, zeu, zev, zew, zex, zey, zez, zfa, Option.map_some, Option.map_none, Option.bind_some, List.map_cons, List.map_nil, List.cons_append, List.nil_append, ↓reduceIte, Nat.reduceEqDiff, Nat.reduceAdd, decide_true, decide_false, Bool.true_eq_false, Bool.false_eq_true, env0, List.getElem?_cons_zero, List.getElem?_cons_succ, zdg, zdh, zdi, zdj, zdk, zdl, zdm, zdn, ia22, ld31, zdo, zdp, zdq, zdr, zds, zdt, zdu, zdv, zdw, zdx, zdy, zdz, zea, zeb, zec, fa_0, fa_1, zed, bd_0, bd_2, zee, fd_1, zef, Nat.zero_add, zeroT, lenTk, i_eqlV, q1, ia_K1, ld_K1, c, zdf, st_Tt, stT_6]
  exact finish_T2 _ _ _ _ _ u _ _ _ _ _ (by first | (simp only [zfa, ↓reduceIte, Nat.reduceEqDiff]; done) | (simp only [zfa, ↓reduceIte, Nat.reduceEqDiff]; rfl)) (by first | (simp only [zfa, ↓reduceIte, Nat.reduceEqDiff]; done) | (simp only [zfa, ↓reduceIte, Nat.reduceEqDiff]; rfl)) (by first | (simp only [zfa, ↓reduceIte, Nat.reduceEqDiff]; done) | (simp only [zfa, ↓reduceIte, Nat.reduceEqDiff]; rfl)) rfl
set_option maxHeartbeats 4000000 in
theorem call1_eq (R d : Nat) (name : List UInt8) (t u : T) (h1 : evalFn Tryd.prog cfg0 R d 19 [.tree (.str sErl), .tree (.str name), .tree (.int .i64 1)] = some (.tree (.bool true), [[], [], []]))
    (h2 : evalFn Tryd.prog cfg0 R d 21 [.tree (.sl throws 3 .tight), .tree (.str name)] = some (.tree (.bool false), [[], []]))
    (h3 : evalFn Tryd.prog cfg0 R d 22 [.tree (.str name), .tree (.sl (cellsK [t]) 1 .tight)] = some (.tree (.tup [encT u, .bool true]), [[], []]))
    (h4 : evalFn Tryd.prog cfg0 R d 23 [.tree (encT u)] = some (.tree (.int .i64 (nodT u : Int)), [[]])) (h5 : nodT u ≤ 2000) :
    evalFn Tryd.prog cfg0 R (d+1) 10 [.tree (.str sErl), .tree (.str name), .tree (.sl (cellsK [t]) 1 .tight)] = some (.tree (.tup [encT u, .agg zErr, .bool true]), [[], [], []]) := by
  rw [evalFn_goP _ Tryd.func10 (by unfold Tryd.f10; rfl) (by unfold Tryd.f10; decide) (Nat.le_of_ble_eq_true (by unfold Tryd.f10; rfl)) (by kernel_rfl)]
  have c1 := fun D st => callA_trees (cfg := cfg0) (d := D) (s := st) (f := 19) (vs := [.str sErl, .str name, .int .i64 1]) rfl h1
  have c2 := fun D st => callA_trees (cfg := cfg0) (d := D) (s := st) (f := 21) (vs := [.sl throws 3 .tight, .str name]) rfl h2
  have c3 := fun D st => callA_trees (cfg := cfg0) (d := D) (s := st) (f := 22) (vs := [.str name, .sl (cellsK [t]) 1 .tight]) rfl h3
  have c4 := fun D st => callA_trees (cfg := cfg0) (d := D) (s := st) (f := 23) (vs := [encT u]) rfl h4
  simp only [encT] at c3 c4
  simp only [throws] at c2
  have e1 : ((1 : Nat) : Int) = 1 := rfl
  have w5 : (sErl == ([101, 114, 108, 97, 110, 103] : List UInt8)) = true := by decide
  have q1 : ¬ ((nodT u : Int) > 2000) := by omega
  simp only [prune_seq, prune_cond, prune_block, prune_loop, prune_scope, prune_text, prune_skip, prune_ret, prune_exit, zaa, zab, zac, zad, zae, zaf, zag, zah, zai, zaj, zak, zal, zam, zan, zao, zap, zaq, zar, zas, zat, zau, zav, zaw, zax, zay, zaz, zba, zbb, zbc, zbd, zbe, zbf, zbg, zbh, zbi, zbj, Nat.reduceBEq, Bool.or_self, Bool.or_false, Bool.or_true, Bool.and_true, Bool.and_false, Bool.true_and, Bool.false_and, Option.isNone_none, Option.isNone_some, Option.isSome_some, Option.isSome_none, zbk, zbl, zbm, zbn, zbo, zbp, zbq, zbr, zbs, zbt, zbu, zbv, zbw, zbx, zby, zbz, zca, zcb, zcc, zcd, zce, zcf, zcg, zch, zci, zcj, zck, zcl, zcm, zcn, zco, zcp, zcq, zcr, zcs, zct, zcu, zcv, zcw, zcx, zcy, zcz, zda, zdb, zdc, zdd, zde, zdf, Option.getD_some, Option.getD_none, zet, zeu, zev, zew, zex, zey, zez, zfa, Option.map_some, Option.map_none, Option.bind_some, List.map_cons, List.map_nil, List.cons_append, List.nil_append, ↓reduceIte, Nat.reduceEqDiff, Nat.reduceAdd, decide_true, decide_false, Bool.true_eq_false, Bool.false_eq_true, env0, List.getElem?_cons_zero, List.getElem?_cons_succ, zdg, zdh, zdi, zdj, zdk, zdl, zdm, zdn, ia22, ld31, zdo, zdp, zdq, zdr, zds, zdt, zdu, zdv, zdw, zdx, zdy, zdz, zea, zeb, zec, fa_0, fa_1, zed, bd_0, bd_2, zee, fd_1, zef, Nat.zero_add, zeg, List.toList_toArray, len9, ix9, zeh, zei, zej, zek, zel, zeroT, zeroE, lenTk, e1, i_eqlV, s_eqlS, w5, opA_three64, three64_str, c1, c2, c3, c4, unA_not', Bool.not_true, zdf, q1, ldT_u, bdE_, st_Tt, stT_6, st_E, stE_z]
  exact finish_T3 _ _ _ _ _ u _ _ _ _ _ _ _ _ (by first | (simp only [zfa, ↓reduceIte, Nat.reduceEqDiff]; done) | (simp only [zfa, ↓reduceIte, Nat.reduceEqDiff]; rfl)) (by first | (simp only [zfa, ↓reduceIte, Nat.reduceEqDiff]; done) | (simp only [zfa, ↓reduceIte, Nat.reduceEqDiff]; rfl)) (by first | (simp only [zfa, ↓reduceIte, Nat.reduceEqDiff]; done) | (simp only [zfa, ↓reduceIte, Nat.reduceEqDiff]; rfl)) (by first | (simp only [zfa, ↓reduceIte, Nat.reduceEqDiff]; done) | (simp only [zfa, ↓reduceIte, Nat.reduceEqDiff]; rfl)) (by first | (simp only [zfa, ↓reduceIte, Nat.reduceEqDiff]; done) | (simp only [zfa, ↓reduceIte, Nat.reduceEqDiff]; rfl)) rfl
end Go.Ab

/- The statement TermLists. Conditions: limbs in range; texts in range. -/
namespace Go.Ab
open Go.Proofs
set_option maxRecDepth 100000
set_option linter.unusedSimpArgs false

mutual
theorem big_wf (R : Nat) : ∀ t : T, bigT R t → wfT t
  | .mk k b lg l s m kg ks, h => by simp only [bigT] at h; simp only [wfT]; exact ⟨h.1, bigK_wf R ks h.2.2⟩
theorem bigK_wf (R : Nat) : ∀ ks : List T, bigK R ks → wfK ks
  | [], _ => by simp only [wfK]
  | t :: r, h => by simp only [bigK] at h; simp only [wfK]; exact ⟨big_wf R t h.1, bigK_wf R r h.2⟩
end
mutual
theorem same_refl : ∀ t : T, sameT t t = true
  | .mk k b lg l s m kg ks => by
    have h := sameK_refl ks
    simp only [sameT, kindT, sgnT, limT, strT, nT, kidsT, ↓reduceIte, h, decide_true, Bool.and_self]
    repeat' split
    all_goals rfl
theorem sameK_refl : ∀ ks : List T, sameK ks ks = true
  | [] => by simp only [sameK]
  | t :: r => by simp only [sameK, same_refl t, sameK_refl r, Bool.and_self]
end
mutual
theorem few_nod : ∀ t : T, leanT t → nodT t ≤ 60 → fewT 100000 t
  | .mk k b lg l s m kg ks, h, hn => by
    simp only [leanT] at h
    simp only [nodT] at hn
    have := nodK_len ks
    simp only [fewT]
    exact ⟨by omega, by omega, fewK_nod ks h.2.2 (by omega)⟩
theorem fewK_nod : ∀ ks : List T, leanK ks → nodK ks ≤ 60 → fewK 100000 ks
  | [], _, _ => by simp only [fewK]
  | t :: r, h, hn => by
    simp only [leanK] at h
    simp only [nodK] at hn
    have := nod_pos t
    simp only [fewK]
    exact ⟨few_nod t h.1 (by omega), fewK_nod r h.2 (by omega)⟩
end
theorem itT_list : ∀ (ks : List T) (r : Nat) (acc : List T), ks.length < r → itT r (listT ks nilT') acc = some (acc ++ ks)
  | [], r, acc, h => by
    obtain ⟨r', rfl⟩ : ∃ r', r = r' + 1 := ⟨r - 1, by simp at h; omega⟩
    simp [listT, itT, nilT', kindT]
  | k :: ks, r, acc, h => by
    obtain ⟨r', rfl⟩ : ∃ r', r = r' + 1 := ⟨r - 1, by simp at h; omega⟩
    have h' := itT_list ks r' (acc ++ [k]) (by simp at h; omega)
    have e : itT (r' + 1) (listT (k :: ks) nilT') acc = itT r' (listT ks nilT') (acc ++ [k]) := rfl
    rw [e, h']
    simp
def tup0 : T := .mk 5 false .n [] [] 0 .n []
theorem itT_list5 : ∀ (ks : List T) (r : Nat) (acc : List T), itT r (listT ks tup0) acc = none
  | _, 0, acc => rfl
  | [], r + 1, acc => rfl
  | k :: ks, r + 1, acc => itT_list5 ks r (acc ++ [k])
theorem items_list (ks : List T) (h : ks.length ≤ 60) : itemsT (listT ks nilT') = some ks := itT_list ks 2001 [] (by omega)
theorem items_list5 (ks : List T) : itemsT (listT ks tup0) = none := itT_list5 ks 2001 []
mutual
theorem lean_few (m : Nat) : ∀ t : T, fewT m t → 2 < m → True
  | _, _, _ => trivial
end
theorem few_listT {m : Nat} (hm : 2 < m) : ∀ (ks : List T) (t : T), fewK m ks → fewT m t → fewT m (listT ks t)
  | [], t, _, h => h
  | k :: ks, t, h, h' => by
    simp only [fewK] at h
    simp only [listT, consT, fewT, fewK, and_true, List.length_nil, List.length_cons]
    exact ⟨by omega, by omega, h.1, few_listT hm ks t h.2 h'⟩
theorem lean_listT : ∀ (ks : List T) (t : T), leanK ks → leanT t → leanT (listT ks t)
  | [], t, _, h => h
  | k :: ks, t, h, h' => by
    simp only [leanK] at h
    simp only [listT, consT, leanT, leanK, and_true, List.length_nil]
    exact ⟨by omega, by omega, h.1, lean_listT ks t h.2 h'⟩
theorem wf_listT : ∀ (ks : List T) (t : T), wfK ks → wfT t → wfT (listT ks t)
  | [], t, _, h => h
  | k :: ks, t, h, h' => by
    simp only [wfK] at h
    simp only [listT, consT, wfT, wfK, and_true]
    exact ⟨limbs_nil, h.1, wf_listT ks t h.2 h'⟩
theorem ws_list : ∀ (ks : List T) (t : T), wsT (listT ks t) = 2 * ks.length + wsK ks + wsT t
  | [], t => by simp [listT, wsK]
  | k :: ks, t => by
    have h := ws_list ks t
    have e : wsT (consT k (listT ks t)) = 2 + (wsT k + wsT (listT ks t)) := by
      simp only [consT, wsT, wsK, wT]
      rw [if_neg (by decide), if_pos trivial]
      omega
    simp only [listT, e, h, wsK, List.length_cons]
    omega
theorem lean_take {ks : List T} (h : leanK ks) (i : Nat) : leanK (ks.take i) := by
  have : ks.take i ++ ks.drop i = ks := List.take_append_drop i ks
  rw [← this] at h
  exact (leanK_app h).1
theorem leanK_snoc : ∀ {q : List T} {t : T}, leanK q → leanT t → leanK (q ++ [t])
  | [], _, _, h => by simp only [List.nil_append, leanK]; exact ⟨h, trivial⟩
  | a :: q, t, h, k => by simp only [leanK] at h; simp only [List.cons_append, leanK]; exact ⟨h.1, leanK_snoc h.2 k⟩
theorem ht_le_nod (t : T) : htT t ≤ nodT t := ht_nod t

noncomputable def codeTL : Code := (Tryd.f0.body).getD .skip
noncomputable def tl11 : Code := seqR (seqR (seqR (seqR codeTL)))
noncomputable def tl20 : Code := seqR (seqR (seqR (seqR tl11)))
abbrev tlArgs (ks : List T) (n : Int) : List Arg := [.tree (.sl (cellsK ks) ks.length .loose), .tree (.int .i64 n)]
noncomputable abbrev tlFin (ks : List T) (n : Int) : Kont := finK Tryd.prog (cfg0.keep 0) (tlArgs ks n) Tryd.f0.results
theorem finish_bb (k : Bool) (ks : List T) (n : Int) (t : Nat) (env : Env) (s : St) (hv : env t = .bool true) : finishP Tryd.prog k (tlArgs ks n) #[.tmp t] env s = some (.tree (.bool true), [[], []]) := finish_b _ _ _ _ _ _ _ hv rfl
section
variable (R : Nat) (hR : 1000000 ≤ R) (hR2 : R ≤ 9223372036854775808) (ks : List T) (hl : ks.length ≤ 60) (n : Int)
include hR hl
end
theorem nodK_50 : ∀ ks : List T, (∀ t ∈ ks, nodT t ≤ 50) → nodK ks ≤ 50 * ks.length
  | [], _ => by simp [nodK]
  | t :: r, h => by
    have h1 := h t (by simp)
    have h2 := nodK_50 r fun x hx => h x (by simp [hx])
    simp only [nodK, List.length_cons]; omega
end Go.Ab

/- What BifTexts compares: lists of a text's bytes. Conditions: lengths in range. -/
namespace Go.Ab
open Go.Proofs
set_option maxRecDepth 100000
set_option linter.unusedSimpArgs false

theorem textLen (z : Int) (h : z.natAbs < B ^ 12) : (textZ z).length ≤ 200 := by
  have := dec_len 116 z.natAbs (Nat.lt_trans h B12_ten)
  unfold textZ
  (repeat' split)
  · decide
  · rw [List.length_cons]; omega
  · omega
def bytesI (s : List UInt8) : List Int := s.map fun c => (c.toNat : Int)
theorem bytesI_len (s : List UInt8) : (bytesI s).length = s.length := List.length_map _
theorem bytesI_64 (s : List UInt8) : ∀ x ∈ bytesI s, I64 x := by
  intro x hx
  obtain ⟨c, _, rfl⟩ := List.mem_map.mp hx
  exact u8_64 c
theorem same_small (v : Int) : sameT (smallT v) (intT v) = true := by
  simp only [smallT, intT, sameT, kindT, sgnT, limT, ↓reduceIte, decide_true, Bool.and_self]
theorem same_cons (a b c d : T) : sameT (consT a b) (consT c d) = (sameT a c && sameT b d) := by
  simp only [consT, sameT, kindT, kidsT, sameK, Bool.and_true]
  rfl
theorem same_txt : ∀ s : List UInt8, sameT (listT (txtT s) nilT') (listT ((bytesI s).map intT) nilT') = true
  | [] => by simp [txtT, bytesI, listT, same_refl]
  | c :: s => by
    have h := same_txt s
    simp only [txtT, bytesI, List.map_cons, listT, same_cons, same_small, Bool.true_and] at h ⊢
    exact h
theorem nodK_txt : ∀ s : List UInt8, nodK (txtT s) = s.length
  | [] => rfl
  | c :: s => by
    have h := nodK_txt s
    have e : nodT (smallT (c.toNat : Int)) = 1 := rfl
    simp only [txtT, List.map_cons, nodK, List.length_cons] at h ⊢
    omega
theorem nod_txt (s : List UInt8) : nodT (listT (txtT s) nilT') = 2 * s.length + 1 := by
  rw [nod_list, nodK_txt, txt_len]
  have e : nodT nilT' = 1 := rfl
  omega
theorem few_small {m : Nat} (hm : 12 ≤ m) (v : Int) (h : I64 v) : fewT m (smallT v) := by
  have h1 : (digs v.natAbs).length ≤ 2 := by
    obtain ⟨h1, h2⟩ := h
    have hb : v.natAbs < B ^ 2 := by
      have : B ^ 2 = 18446744073709551616 := by decide
      omega
    exact digs_len _ 2 hb
  simp only [smallT, fewT, fewK, and_true, List.length_nil]
  exact ⟨by omega, by omega⟩
theorem few_txt {m : Nat} (hm : 12 ≤ m) : ∀ s : List UInt8, fewK m (txtT s)
  | [] => by simp [txtT, fewK]
  | c :: s => by
    have h := few_txt hm s
    simp only [txtT, List.map_cons, fewK] at h ⊢
    exact ⟨few_small hm _ (u8_64 c), h⟩
theorem items_txt (s : List UInt8) (h : s.length ≤ 2000) : itemsT (listT (txtT s) nilT') = some (txtT s) := itT_list (txtT s) 2001 [] (by rw [txt_len]; omega)
theorem ApI.proper {s : St} {d : Nat} {x : AV} {us : List Int} (h : ApI s d x us) (n D : Nat) (hn : 100000 ≤ n) (hx : ∀ x ∈ us, I64 x) : callQ (evalFn Tryd.prog cfg0 n (D+5)) 17 [x] = some (encT (listT ((us.take 60).map intT) nilT')) := by
  rcases h with ⟨rfl, rfl⟩ | ⟨_, t, rfl, _⟩
  · exact callQ_trees (vs := [.sl [] 0 .nil]) rfl (proper_eq n D hn [] .nil (by simp))
  · exact callQ_loose (vs := [.sl (intsA us) us.length (.tok d t)]) rfl rfl rfl (proper_eq n D hn us .loose hx)
def isOkB : Option Out → Bool
  | some (.tree (.bool true), []) => true
  | _ => false
theorem isOkB_eq {o : Option Out} (h : isOkB o = true) : o = some (.tree (.bool true), []) := by
  unfold isOkB at h
  split at h
  · rfl
  · cases h
theorem awakeB_eq : evalFn Tryd.prog cfg0 100000 60 7 [] = some (.tree (.bool true), []) := isOkB_eq (by kernel_rfl)
end Go.Ab

/- The statement BifTexts. Conditions: limbs in range. -/
namespace Go.Ab
open Go.Proofs
set_option maxRecDepth 100000
set_option linter.unusedSimpArgs false

theorem bdT_s (s : List UInt8) : buildA Tryd.prog 29 [(0, .int .i64 2), (2, .str s)] = some (.agg (cellsT (.mk 2 false .n [] s 0 .n []))) := bdT_2 2 s
theorem bdT_w (b : Bool) (g : Gk) (l : List Nat) : buildA Tryd.prog 29 [(0, .int .i64 1), (1, .agg [.bool b, encL g l])] = some (.agg (cellsT (.mk 1 b g l [] 0 .n []))) := bdT_1 1 b g l
noncomputable def codeBT : Code := (Tryd.f5.body).getD .skip
noncomputable def bt9 : Code := seqR (seqR (seqR (seqR (seqR (seqR (seqR codeBT))))))
noncomputable def bt10 : Code := seqR bt9
section
variable (R : Nat) (hR : 1000000 ≤ R) (b : Bool) (l : List Nat) (hL : Limbs l) (s : List UInt8) (hs : s.length ≤ 40)
include hR hL hs
set_option maxHeartbeats 8000000 in
theorem bt10_eq (x12 x13 : AV) (s1 s2 : St) (X : List UInt8) (hX : X = textZ (numZ b l)) (a1 : ApI s1 58 x12 (bytesI X)) (a2 : ApI s2 71 x13 (bytesI s)) (env : Env) (st : St) (e5 : env 5 = .ptr 5 1 0) (e7 : env 7 = .bool true) (e8 : env 8 = .ptr 8 1 0) (e10 : env 10 = .bool true) (e11 : env 11 = .str X) (e12 : env 12 = x12) (e13 : env 13 = x13)
    (j5 : st 5 = ⟨1, .buf (cellsT (listT (txtT X) nilT'))⟩) (j8 : st 8 = ⟨1, .buf (cellsT (listT (txtT s) nilT'))⟩) (k16 : (st 16).t = 0) (k17 : (st 17).t = 0) :
    den Tryd.prog cfg0 (evalFn Tryd.prog cfg0 R 6099) R bt10 (finK Tryd.prog (cfg0.keep 5) [.tree (encA b .l l), .tree (.str s)] Tryd.f5.results) env st = some (.tree (.bool true), [[], []]) := by
  have hXl : X.length ≤ 200 := by rw [hX]; exact textLen _ (numZ_lt b l hL)
  have hl1 := txt_len X
  have wq := callQ_trees (f := 7) (vs := []) rfl (evalFn_mono (show 100000 ≤ R by omega) 60 6099 (by decide) _ _ _ awakeB_eq)
  have nl := call1_eq R 6098 sLen (listT (txtT X) nilT') (smallT ((txtT X).length : Int)) (evalFn_mono (show 100000 ≤ R by omega) 20 6098 (by decide) _ _ _ hasLen) (evalFn_mono (show 100000 ≤ R by omega) 20 6098 (by decide) _ _ _ contLen)
    (answer1_eq R 6097 sLen _ _ true (oneLen_eq R 6096 (by omega) (by decide) _ _ (items_txt X (by omega)) (by omega)))
    (evalFn_mono (show 1000000 ≤ R from hR) 6098 6098 (Nat.le_refl _) _ _ _ (tNodes_eq 1000000 (Nat.le_refl _) 6098 _ (by show 1 ≤ 6098; decide) (by show 1 < 1000000; decide))) (by show 1 ≤ 2000; decide)
  have cl := fun D st => callA_trees (cfg := cfg0) (d := D) (s := st) (f := 10) (vs := [.str sErl, .str sLen, .sl (cellsK [listT (txtT X) nilT']) 1 .tight]) rfl nl
  rw [hl1] at cl
  simp only [encT, sErl, sLen] at cl
  have cp1 := a1.proper R 6094 (by omega) (bytesI_64 X)
  have cp2 := a2.proper R 6094 (by omega) (bytesI_64 s)
  have ln1 := fun st => a1.len st
  rw [bytesI_len] at ln1
  have ht (t : T) (h : nodT t ≤ 6000) : htT t ≤ 6098 := Nat.le_trans (ht_nod t) (by omega)
  have few (u : List UInt8) : fewT 1000000 (listT (txtT u) nilT') := few_listT (by omega) _ _ (few_txt (by omega) u) (by simp only [nilT', fewT, fewK, and_true, List.length_nil]; decide)
  have sm (x y : T) (hx : nodT x ≤ 6000) (hf : fewT 1000000 x) := callQ_trees (f := 12) (vs := [encT x, encT y]) rfl (evalFn_mono hR 6099 6099 (Nat.le_refl _) _ _ _ (rsame_eq 1000000 (by decide) 6098 6099 x y (ht x hx) (by decide) hf))
  have c2 := sm (listT (txtT s) nilT') (listT ((bytesI s).map intT) nilT') (by rw [nod_txt]; omega) (few s)
  rw [same_txt] at c2
  have t2 : (bytesI s).take 60 = bytesI s := List.take_of_length_le (by rw [bytesI_len]; omega)
  rw [t2] at cp2
  have c3 := sm (smallT (X.length : Int)) (intT (X.length : Int)) (by show 1 ≤ 6000; decide) (few_small (by omega) _ ⟨by omega, by omega⟩)
  rw [same_small] at c3
  have ci := callQ_trees (f := 13) (vs := [.int .i64 (X.length : Int)]) rfl (I1_eq R 6094 (by omega) (X.length : Int) ⟨by omega, by omega⟩)
  simp only [encT] at cp1 cp2 c2 c3 ci
  by_cases h60 : (X.length : Int) > 60
  · simp only [bt10, bt9, codeBT, seqR, Tryd.f5, Option.getD_some, zaa, zab, zac, zad, zae, zaf, zag, zah, zai, zaj, zak, zal, zam, zan, zao, zap, zaq, zar, zas, zat, zau, zav, zaw, zax, zay, zaz, zba, zbb, zbc, zbd, zbe, zbf, zbg, zbh, zbi, zbj, Nat.reduceBEq, Bool.or_self, Bool.or_false, Bool.or_true, Bool.and_true, Bool.and_false, Bool.true_and, Bool.false_and, Option.isNone_none, Option.isNone_some, Option.isSome_some, Option.isSome_none, zbk, zbl, zbm, zbn, zbo, zbp, zbq, zbr, zbs, zbt, zbu, zbv, zbw, zbx, zby, zbz, zca, zcb, zcc, zcd, zce, zcf, zcg, zch, zci, zcj, zck, zcl, zcm, zcn, zco, zcp, zcq, zcr, zcs, zct, zcu, zcv, zcw, zcx, zcy, zcz, zda, zdb, zdc, zdd, zde, zdf, Option.getD_some, Option.getD_none, zet, zeu, zev, zew, zex, zey, zez, zfa, Option.map_some, Option.map_none, Option.bind_some, List.map_cons, List.map_nil, List.cons_append, List.nil_append, ↓reduceIte, Nat.reduceEqDiff, Nat.reduceAdd, decide_true, decide_false, Bool.true_eq_false, Bool.false_eq_true, env0, List.getElem?_cons_zero, List.getElem?_cons_succ, zdg, zdh, zdi, zdj, zdk, zdl, zdm, zdn, ia22, ld31, zdo, zdp, zdq, zdr, zds, zdt, zdu, zdv, zdw, zdx, zdy, zdz, zea, zeb, zec, fa_0, fa_1, zed, bd_0, bd_2, zee, fd_1, zef, Nat.zero_add, zeg, List.toList_toArray, len9, ix9, zeh, zei, zej, zek, zel, zeroT, zeroE, e5, e7, e8, e10, e11, e12, e13, j5, j8, k16, k17, ldT_u, opA_one26, one26_K1, cl, zdf, st_Tt, stT_6, st_E, stE_z, ln1, h60, cp2, c2, ci, c3, wq]
    exact finish_b _ _ _ _ _ _ _ (by first | (simp only [zfa, ↓reduceIte, Nat.reduceEqDiff]; done) | (simp only [zfa, ↓reduceIte, Nat.reduceEqDiff]; rfl)) rfl
  · have t1 : (bytesI X).take 60 = bytesI X := List.take_of_length_le (by rw [bytesI_len]; omega)
    have c1 := sm (listT (txtT X) nilT') (listT ((bytesI X).map intT) nilT') (by rw [nod_txt]; omega) (few X)
    rw [same_txt] at c1
    rw [t1] at cp1
    simp only [encT] at c1
    simp only [bt10, bt9, codeBT, seqR, Tryd.f5, Option.getD_some, zaa, zab, zac, zad, zae, zaf, zag, zah, zai, zaj, zak, zal, zam, zan, zao, zap, zaq, zar, zas, zat, zau, zav, zaw, zax, zay, zaz, zba, zbb, zbc, zbd, zbe, zbf, zbg, zbh, zbi, zbj, Nat.reduceBEq, Bool.or_self, Bool.or_false, Bool.or_true, Bool.and_true, Bool.and_false, Bool.true_and, Bool.false_and, Option.isNone_none, Option.isNone_some, Option.isSome_some, Option.isSome_none, zbk, zbl, zbm, zbn, zbo, zbp, zbq, zbr, zbs, zbt, zbu, zbv, zbw, zbx, zby, zbz, zca, zcb, zcc, zcd, zce, zcf, zcg, zch, zci, zcj, zck, zcl, zcm, zcn, zco, zcp, zcq, zcr, zcs, zct, zcu, zcv, zcw, zcx, zcy, zcz, zda, zdb, zdc, zdd, zde, zdf, Option.getD_some, Option.getD_none, zet, zeu, zev, zew, zex, zey, zez, zfa, Option.map_some, Option.map_none, Option.bind_some, List.map_cons, List.map_nil, List.cons_append, List.nil_append, ↓reduceIte, Nat.reduceEqDiff, Nat.reduceAdd, decide_true, decide_false, Bool.true_eq_false, Bool.false_eq_true, env0, List.getElem?_cons_zero, List.getElem?_cons_succ, zdg, zdh, zdi, zdj, zdk, zdl, zdm, zdn, ia22, ld31, zdo, zdp, zdq, zdr, zds, zdt, zdu, zdv, zdw, zdx, zdy, zdz, zea, zeb, zec, fa_0, fa_1, zed, bd_0, bd_2, zee, fd_1, zef, Nat.zero_add, zeg, List.toList_toArray, len9, ix9, zeh, zei, zej, zek, zel, zeroT, zeroE, e5, e7, e8, e10, e11, e12, e13, j5, j8, k16, k17, ldT_u, opA_one26, one26_K1, cl, zdf, st_Tt, stT_6, st_E, stE_z, ln1, h60, cp1, c1, cp2, c2, ci, c3, wq]
    exact finish_b _ _ _ _ _ _ _ (by first | (simp only [zfa, ↓reduceIte, Nat.reduceEqDiff]; done) | (simp only [zfa, ↓reduceIte, Nat.reduceEqDiff]; rfl)) rfl
end
set_option maxHeartbeats 32000000 in
theorem texts_B (R : Nat) (hR : 1000000 ≤ R) (b : Bool) (l : List Nat) (hL : Limbs l) (s : List UInt8) :
    evalFn Tryd.prog cfg0 R 6100 5 [.tree (encA b .l l), .tree (.str s)] = some (.tree (.bool true), [[], []]) := by
  rw [evalFn_go _ Tryd.func5 (by unfold Tryd.f5; rfl) (by unfold Tryd.f5; decide) (Nat.le_of_ble_eq_true (by unfold Tryd.f5; rfl)) (by kernel_rfl)]
  have wa := fun D st => callA_trees (cfg := cfg0) (d := D) (s := st) (f := 7) (vs := []) rfl (evalFn_mono (show 100000 ≤ R by omega) 60 6099 (by decide) _ _ _ awakeB_eq)
  have ck := fun D st => callA_trees (cfg := cfg0) (d := D) (s := st) (f := 15) (vs := [encA b .l l]) rfl (check_eq R 6098 b .l l hL)
  simp only [encA] at ck
  cases hc : chkN b l with
  | false =>
    rw [hc] at ck
    simp only [zaa, zab, zac, zad, zae, zaf, zag, zah, zai, zaj, zak, zal, zam, zan, zao, zap, zaq, zar, zas, zat, zau, zav, zaw, zax, zay, zaz, zba, zbb, zbc, zbd, zbe, zbf, zbg, zbh, zbi, zbj, Nat.reduceBEq, Bool.or_self, Bool.or_false, Bool.or_true, Bool.and_true, Bool.and_false, Bool.true_and, Bool.false_and, Option.isNone_none, Option.isNone_some, Option.isSome_some, Option.isSome_none, zbk, zbl, zbm, zbn, zbo, zbp, zbq, zbr, zbs, zbt, zbu, zbv, zbw, zbx, zby, zbz, zca, zcb, zcc, zcd, zce, zcf, zcg, zch, zci, zcj, zck, zcl, zcm, zcn, zco, zcp, zcq, zcr, zcs, zct, zcu, zcv, zcw, zcx, zcy, zcz, zda, zdb, zdc, zdd, zde, zdf, Option.getD_some, Option.getD_none, zet, zeu, zev, zew, zex, zey, zez, zfa, Option.map_some, Option.map_none, Option.bind_some, List.map_cons, List.map_nil, List.cons_append, List.nil_append, ↓reduceIte, Nat.reduceEqDiff, Nat.reduceAdd, decide_true, decide_false, Bool.true_eq_false, Bool.false_eq_true, env0, List.getElem?_cons_zero, List.getElem?_cons_succ, zdg, zdh, zdi, zdj, zdk, zdl, zdm, zdn, ia22, ld31, zdo, zdp, zdq, zdr, zds, zdt, zdu, zdv, zdw, zdx, zdy, zdz, zea, zeb, zec, fa_0, fa_1, zed, bd_0, bd_2, zee, fd_1, zef, Nat.zero_add, encA, ck, unA_not', Bool.not_false, wa]
    exact finish_b _ _ _ _ _ _ _ (by first | (simp only [zfa, ↓reduceIte, Nat.reduceEqDiff]; done) | (simp only [zfa, ↓reduceIte, Nat.reduceEqDiff]; rfl)) rfl
  | true =>
  rw [hc] at ck
  by_cases h40 : (s.length : Int) > 40
  · simp only [zaa, zab, zac, zad, zae, zaf, zag, zah, zai, zaj, zak, zal, zam, zan, zao, zap, zaq, zar, zas, zat, zau, zav, zaw, zax, zay, zaz, zba, zbb, zbc, zbd, zbe, zbf, zbg, zbh, zbi, zbj, Nat.reduceBEq, Bool.or_self, Bool.or_false, Bool.or_true, Bool.and_true, Bool.and_false, Bool.true_and, Bool.false_and, Option.isNone_none, Option.isNone_some, Option.isSome_some, Option.isSome_none, zbk, zbl, zbm, zbn, zbo, zbp, zbq, zbr, zbs, zbt, zbu, zbv, zbw, zbx, zby, zbz, zca, zcb, zcc, zcd, zce, zcf, zcg, zch, zci, zcj, zck, zcl, zcm, zcn, zco, zcp, zcq, zcr, zcs, zct, zcu, zcv, zcw, zcx, zcy, zcz, zda, zdb, zdc, zdd, zde, zdf, Option.getD_some, Option.getD_none, zet, zeu, zev, zew, zex, zey, zez, zfa, Option.map_some, Option.map_none, Option.bind_some, List.map_cons, List.map_nil, List.cons_append, List.nil_append, ↓reduceIte, Nat.reduceEqDiff, Nat.reduceAdd, decide_true, decide_false, Bool.true_eq_false, Bool.false_eq_true, env0, List.getElem?_cons_zero, List.getElem?_cons_succ, zdg, zdh, zdi, zdj, zdk, zdl, zdm, zdn, ia22, ld31, zdo, zdp, zdq, zdr, zds, zdt, zdu, zdv, zdw, zdx, zdy, zdz, zea, zeb, zec, fa_0, fa_1, zed, bd_0, bd_2, zee, fd_1, zef, Nat.zero_add, encA, ck, unA_not', Bool.not_true, len9, h40, wa]
    exact finish_b _ _ _ _ _ _ _ (by first | (simp only [zfa, ↓reduceIte, Nat.reduceEqDiff]; done) | (simp only [zfa, ↓reduceIte, Nat.reduceEqDiff]; rfl)) rfl
  have hs : s.length ≤ 40 := by omega
  obtain ⟨X, hX⟩ : ∃ X, X = textZ (numZ b l) := ⟨_, rfl⟩
  have hXl : X.length ≤ 200 := by rw [hX]; exact textLen _ (numZ_lt b l hL)
  have nd (u : List UInt8) (hu : u.length ≤ 200) := evalFn_mono (show 1000000 ≤ R from hR) 6098 6098 (Nat.le_refl _) _ _ _ (tNodes_eq 1000000 (Nat.le_refl _) 6098 (listT (txtT u) nilT') (Nat.le_trans (ht_nod _) (by rw [nod_txt]; omega)) (by rw [nod_txt]; omega))
  have n1 := call1_eq R 6098 sItl (.mk 1 b .l l [] 0 .n []) (listT (txtT X) nilT') (evalFn_mono (show 100000 ≤ R by omega) 20 6098 (by decide) _ _ _ hasItl) (evalFn_mono (show 100000 ≤ R by omega) 20 6098 (by decide) _ _ _ contItl)
    (answer1_eq R 6097 sItl _ _ true (by rw [hX]; exact oneItl_eq R 6096 (by omega) (by decide) b .l l hL (by rw [← hX]; omega))) (nd X hXl) (by rw [nod_txt]; omega)
  have n2 := call1_eq R 6098 sAtl (.mk 2 false .n [] s 0 .n []) (listT (txtT s) nilT') (evalFn_mono (show 100000 ≤ R by omega) 20 6098 (by decide) _ _ _ hasAtl) (evalFn_mono (show 100000 ≤ R by omega) 20 6098 (by decide) _ _ _ contAtl)
    (answer1_eq R 6097 sAtl _ _ true (oneAtl_eq R 6096 (by omega) (by decide) s (by omega))) (nd s (by omega)) (by rw [nod_txt]; omega)
  have c1 := fun D st => callA_trees (cfg := cfg0) (d := D) (s := st) (f := 10) (vs := [.str sErl, .str sItl, .sl (cellsK [.mk 1 b .l l [] 0 .n []]) 1 .tight]) rfl n1
  have c2 := fun D st => callA_trees (cfg := cfg0) (d := D) (s := st) (f := 10) (vs := [.str sErl, .str sAtl, .sl (cellsK [.mk 2 false .n [] s 0 .n []]) 1 .tight]) rfl n2
  have cx := fun D st => callA_trees (cfg := cfg0) (d := D) (s := st) (f := 16) (vs := [encA b .l l]) rfl (text_eq R 6093 (by omega) (isN_A b .l l hL))
  rw [← hX] at cx
  simp only [encA] at cx
  simp only [encT, sErl, sItl] at c1
  simp only [encT, sErl, sAtl] at c2
  simp only [zaa, zab, zac, zad, zae, zaf, zag, zah, zai, zaj, zak, zal, zam, zan, zao, zap, zaq, zar, zas, zat, zau, zav, zaw, zax, zay, zaz, zba, zbb, zbc, zbd, zbe, zbf, zbg, zbh, zbi, zbj, Nat.reduceBEq, Bool.or_self, Bool.or_false, Bool.or_true, Bool.and_true, Bool.and_false, Bool.true_and, Bool.false_and, Option.isNone_none, Option.isNone_some, Option.isSome_some, Option.isSome_none, zbk, zbl, zbm, zbn, zbo, zbp, zbq, zbr, zbs, zbt, zbu, zbv, zbw, zbx, zby, zbz, zca, zcb, zcc, zcd, zce, zcf, zcg, zch, zci, zcj, zck, zcl, zcm, zcn, zco, zcp, zcq, zcr, zcs, zct, zcu, zcv, zcw, zcx, zcy, zcz, zda, zdb, zdc, zdd, zde, zdf, Option.getD_some, Option.getD_none, zet, zeu, zev, zew, zex, zey, zez, zfa, Option.map_some, Option.map_none, Option.bind_some, List.map_cons, List.map_nil, List.cons_append, List.nil_append, ↓reduceIte, Nat.reduceEqDiff, Nat.reduceAdd, decide_true, decide_false, Bool.true_eq_false, Bool.false_eq_true, env0, List.getElem?_cons_zero, List.getElem?_cons_succ, zdg, zdh, zdi, zdj, zdk, zdl, zdm, zdn, ia22, ld31, zdo, zdp, zdq, zdr, zds, zdt, zdu, zdv, zdw, zdx, zdy, zdz, zea, zeb, zec, fa_0, fa_1, zed, bd_0, bd_2, zee, fd_1, zef, Nat.zero_add, zeg, List.toList_toArray, len9, ix9, zeh, zei, zej, zek, zel, zeroT, zeroE, encA, ck, unA_not', Bool.not_true, h40, bdT_w, bdT_s, opA_one26, one26_K1, c1, c2, cx, zdf, st_Tt, stT_6, st_E, stE_z, den_loop]
  refine loop_ends (X := Nat) (fun i env st => env 1 = .str s ∧ env 5 = .ptr 5 1 0 ∧ env 7 = .bool true ∧ env 8 = .ptr 8 1 0 ∧ env 10 = .bool true ∧ env 11 = .str X ∧ env 13 = .sl [] 0 .nil ∧ env 14 = .int .i64 (i : Int) ∧ ApI st 58 (env 12) (bytesI (X.take i)) ∧ st 5 = ⟨1, .buf (cellsT (listT (txtT X) nilT'))⟩ ∧ st 8 = ⟨1, .buf (cellsT (listT (txtT s) nilT'))⟩ ∧ (st 16).t = 0 ∧ (st 17).t = 0 ∧ i ≤ X.length) (fun i => X.length - i) (fun _ => (.tree (.bool true), [[], []])) ?_ R 0 _ _ (by omega) ⟨(by first | (simp only [zfa, ↓reduceIte, Nat.reduceEqDiff, env0, List.getElem?_cons_zero, List.getElem?_cons_succ]; done) | (simp only [zfa, ↓reduceIte, Nat.reduceEqDiff, env0, List.getElem?_cons_zero, List.getElem?_cons_succ]; rfl)), (by first | (simp only [zfa, ↓reduceIte, Nat.reduceEqDiff]; done) | (simp only [zfa, ↓reduceIte, Nat.reduceEqDiff]; rfl)), (by first | (simp only [zfa, ↓reduceIte, Nat.reduceEqDiff]; done) | (simp only [zfa, ↓reduceIte, Nat.reduceEqDiff]; rfl)), (by first | (simp only [zfa, ↓reduceIte, Nat.reduceEqDiff]; done) | (simp only [zfa, ↓reduceIte, Nat.reduceEqDiff]; rfl)), (by first | (simp only [zfa, ↓reduceIte, Nat.reduceEqDiff]; done) | (simp only [zfa, ↓reduceIte, Nat.reduceEqDiff]; rfl)), (by first | (simp only [zfa, ↓reduceIte, Nat.reduceEqDiff]; done) | (simp only [zfa, ↓reduceIte, Nat.reduceEqDiff]; rfl)), (by first | (simp only [zfa, ↓reduceIte, Nat.reduceEqDiff]; done) | (simp only [zfa, ↓reduceIte, Nat.reduceEqDiff]; rfl)), (by first | (simp only [zfa, ↓reduceIte, Nat.reduceEqDiff]; done) | (simp only [zfa, ↓reduceIte, Nat.reduceEqDiff]; rfl)), .inl ⟨rfl, (by first | (simp only [zfa, ↓reduceIte, Nat.reduceEqDiff]; done) | (simp only [zfa, ↓reduceIte, Nat.reduceEqDiff]; rfl))⟩, (by first | (simp only [zfa, ↓reduceIte, Nat.reduceEqDiff]; done) | (simp only [zfa, ↓reduceIte, Nat.reduceEqDiff]; rfl)), (by first | (simp only [zfa, ↓reduceIte, Nat.reduceEqDiff]; done) | (simp only [zfa, ↓reduceIte, Nat.reduceEqDiff]; rfl)), (by first | (simp only [zfa, ↓reduceIte, Nat.reduceEqDiff, zdw]; done) | (simp only [zfa, ↓reduceIte, Nat.reduceEqDiff, zdw]; rfl)), (by first | (simp only [zfa, ↓reduceIte, Nat.reduceEqDiff, zdw]; done) | (simp only [zfa, ↓reduceIte, Nat.reduceEqDiff, zdw]; rfl)), Nat.zero_le _⟩
  intro rr i hr ih env st ⟨e1, e5, e7, e8, e10, e11, e13, e14, ap, j5, j8, k16, k17, hi⟩
  by_cases hlt : i < X.length
  · have q1 : (i : Int) < (X.length : Int) := by omega
    have q2 : (0 : Int) ≤ (i : Int) := by omega
    have c8 := (X.getD i 0).toNat_lt
    have cv := fun st => conv5_3 st (X.getD i 0).toNat (by omega)
    obtain ⟨x', s', a1, a2, a3⟩ := ap.push (by rw [bytesI_len, List.length_take]; omega) ((X.getD i 0).toNat : Int)
    have f5 := i_add Tryd.prog 3 (i : Int) 1 (by omega) (by omega)
    have hm : bytesI (X.take (i + 1)) = bytesI (X.take i) ++ [((X.getD i 0).toNat : Int)] := by
      rw [List.take_succ_eq_append_getElem hlt, bytesI, List.map_append, List.getD_eq_getElem?_getD, List.getElem?_eq_getElem hlt]; rfl
    simp only [zaa, zab, zac, zad, zae, zaf, zag, zah, zai, zaj, zak, zal, zam, zan, zao, zap, zaq, zar, zas, zat, zau, zav, zaw, zax, zay, zaz, zba, zbb, zbc, zbd, zbe, zbf, zbg, zbh, zbi, zbj, Nat.reduceBEq, Bool.or_self, Bool.or_false, Bool.or_true, Bool.and_true, Bool.and_false, Bool.true_and, Bool.false_and, Option.isNone_none, Option.isNone_some, Option.isSome_some, Option.isSome_none, zbk, zbl, zbm, zbn, zbo, zbp, zbq, zbr, zbs, zbt, zbu, zbv, zbw, zbx, zby, zbz, zca, zcb, zcc, zcd, zce, zcf, zcg, zch, zci, zcj, zck, zcl, zcm, zcn, zco, zcp, zcq, zcr, zcs, zct, zcu, zcv, zcw, zcx, zcy, zcz, zda, zdb, zdc, zdd, zde, zdf, Option.getD_some, Option.getD_none, zet, zeu, zev, zew, zex, zey, zez, zfa, Option.map_some, Option.map_none, Option.bind_some, List.map_cons, List.map_nil, List.cons_append, List.nil_append, ↓reduceIte, Nat.reduceEqDiff, Nat.reduceAdd, decide_true, decide_false, Bool.true_eq_false, Bool.false_eq_true, zdg, zdh, zdi, zdj, zdk, zdl, zdm, zdn, ia22, ld31, zdo, zdp, zdq, zdr, zds, zdt, zdu, zdv, zdw, zdx, zdy, zdz, zea, zeb, zec, fa_0, fa_1, zed, bd_0, bd_2, zee, fd_1, zef, Nat.zero_add, zeg, List.toList_toArray, len9, ix9, zeh, zei, zej, zek, zel, e1, e5, e7, e8, e10, e11, e13, e14, q1, q2, and_self, Int.toNat_natCast, cv, opA_oneI, oneI_int, a1, f5]
    exact ih (i + 1) _ _ (by omega) rfl ⟨(by first | (simp only [zfa, ↓reduceIte, Nat.reduceEqDiff, e1]; done) | (simp only [zfa, ↓reduceIte, Nat.reduceEqDiff, e1]; rfl)), (by first | (simp only [zfa, ↓reduceIte, Nat.reduceEqDiff, e5]; done) | (simp only [zfa, ↓reduceIte, Nat.reduceEqDiff, e5]; rfl)), (by first | (simp only [zfa, ↓reduceIte, Nat.reduceEqDiff, e7]; done) | (simp only [zfa, ↓reduceIte, Nat.reduceEqDiff, e7]; rfl)), (by first | (simp only [zfa, ↓reduceIte, Nat.reduceEqDiff, e8]; done) | (simp only [zfa, ↓reduceIte, Nat.reduceEqDiff, e8]; rfl)), (by first | (simp only [zfa, ↓reduceIte, Nat.reduceEqDiff, e10]; done) | (simp only [zfa, ↓reduceIte, Nat.reduceEqDiff, e10]; rfl)), (by first | (simp only [zfa, ↓reduceIte, Nat.reduceEqDiff, e11]; done) | (simp only [zfa, ↓reduceIte, Nat.reduceEqDiff, e11]; rfl)), (by first | (simp only [zfa, ↓reduceIte, Nat.reduceEqDiff, e13]; done) | (simp only [zfa, ↓reduceIte, Nat.reduceEqDiff, e13]; rfl)), (by first | (simp only [zfa, ↓reduceIte, Nat.reduceEqDiff]; done) | (simp only [zfa, ↓reduceIte, Nat.reduceEqDiff]; rfl)), by rw [hm]; exact a2, by rw [a3 5 (by decide)]; exact j5, by rw [a3 8 (by decide)]; exact j8, by rw [a3 16 (by decide)]; exact k16, by rw [a3 17 (by decide)]; exact k17, by omega⟩
  have hie : i = X.length := by omega
  subst hie
  have q1 : ¬ (X.length : Int) < (X.length : Int) := by omega
  rw [List.take_length] at ap
  generalize h12 : env 12 = x12 at ap
  simp only [zaa, zab, zac, zad, zae, zaf, zag, zah, zai, zaj, zak, zal, zam, zan, zao, zap, zaq, zar, zas, zat, zau, zav, zaw, zax, zay, zaz, zba, zbb, zbc, zbd, zbe, zbf, zbg, zbh, zbi, zbj, Nat.reduceBEq, Bool.or_self, Bool.or_false, Bool.or_true, Bool.and_true, Bool.and_false, Bool.true_and, Bool.false_and, Option.isNone_none, Option.isNone_some, Option.isSome_some, Option.isSome_none, zbk, zbl, zbm, zbn, zbo, zbp, zbq, zbr, zbs, zbt, zbu, zbv, zbw, zbx, zby, zbz, zca, zcb, zcc, zcd, zce, zcf, zcg, zch, zci, zcj, zck, zcl, zcm, zcn, zco, zcp, zcq, zcr, zcs, zct, zcu, zcv, zcw, zcx, zcy, zcz, zda, zdb, zdc, zdd, zde, zdf, Option.getD_some, Option.getD_none, zet, zeu, zev, zew, zex, zey, zez, zfa, Option.map_some, Option.map_none, Option.bind_some, List.map_cons, List.map_nil, List.cons_append, List.nil_append, ↓reduceIte, Nat.reduceEqDiff, Nat.reduceAdd, decide_true, decide_false, Bool.true_eq_false, Bool.false_eq_true, zdg, zdh, zdi, zdj, zdk, zdl, zdm, zdn, ia22, ld31, zdo, zdp, zdq, zdr, zds, zdt, zdu, zdv, zdw, zdx, zdy, zdz, zea, zeb, zec, fa_0, fa_1, zed, bd_0, bd_2, zee, fd_1, zef, Nat.zero_add, zeg, List.toList_toArray, len9, ix9, zeh, zei, zej, zek, zel, e1, e5, e7, e8, e10, e11, e13, e14, q1, den_loop]
  clear ih
  refine loop_ends (X := Nat) (fun i env st => env 1 = .str s ∧ env 5 = .ptr 5 1 0 ∧ env 7 = .bool true ∧ env 8 = .ptr 8 1 0 ∧ env 10 = .bool true ∧ env 11 = .str X ∧ env 12 = x12 ∧ env 15 = .int .i64 (i : Int) ∧ ApI st 71 (env 13) (bytesI (s.take i)) ∧ st 5 = ⟨1, .buf (cellsT (listT (txtT X) nilT'))⟩ ∧ st 8 = ⟨1, .buf (cellsT (listT (txtT s) nilT'))⟩ ∧ (st 16).t = 0 ∧ (st 17).t = 0 ∧ i ≤ s.length) (fun i => s.length - i) (fun _ => (.tree (.bool true), [[], []])) ?_ R 0 _ _ (by omega) ⟨(by first | (simp only [zfa, ↓reduceIte, Nat.reduceEqDiff, e1]; done) | (simp only [zfa, ↓reduceIte, Nat.reduceEqDiff, e1]; rfl)), (by first | (simp only [zfa, ↓reduceIte, Nat.reduceEqDiff, e5]; done) | (simp only [zfa, ↓reduceIte, Nat.reduceEqDiff, e5]; rfl)), (by first | (simp only [zfa, ↓reduceIte, Nat.reduceEqDiff, e7]; done) | (simp only [zfa, ↓reduceIte, Nat.reduceEqDiff, e7]; rfl)), (by first | (simp only [zfa, ↓reduceIte, Nat.reduceEqDiff, e8]; done) | (simp only [zfa, ↓reduceIte, Nat.reduceEqDiff, e8]; rfl)), (by first | (simp only [zfa, ↓reduceIte, Nat.reduceEqDiff, e10]; done) | (simp only [zfa, ↓reduceIte, Nat.reduceEqDiff, e10]; rfl)), (by first | (simp only [zfa, ↓reduceIte, Nat.reduceEqDiff, e11]; done) | (simp only [zfa, ↓reduceIte, Nat.reduceEqDiff, e11]; rfl)), (by first | (simp only [zfa, ↓reduceIte, Nat.reduceEqDiff, h12]; done) | (simp only [zfa, ↓reduceIte, Nat.reduceEqDiff, h12]; rfl)), (by first | (simp only [zfa, ↓reduceIte, Nat.reduceEqDiff]; done) | (simp only [zfa, ↓reduceIte, Nat.reduceEqDiff]; rfl)), .inl ⟨rfl, (by first | (simp only [zfa, ↓reduceIte, Nat.reduceEqDiff, e13]; done) | (simp only [zfa, ↓reduceIte, Nat.reduceEqDiff, e13]; rfl))⟩, (by first | (simp only [zfa, ↓reduceIte, Nat.reduceEqDiff, j5]; done) | (simp only [zfa, ↓reduceIte, Nat.reduceEqDiff, j5]; rfl)), (by first | (simp only [zfa, ↓reduceIte, Nat.reduceEqDiff, j8]; done) | (simp only [zfa, ↓reduceIte, Nat.reduceEqDiff, j8]; rfl)), (by first | (simp only [zfa, ↓reduceIte, Nat.reduceEqDiff, k16]; done) | (simp only [zfa, ↓reduceIte, Nat.reduceEqDiff, k16]; rfl)), (by first | (simp only [zfa, ↓reduceIte, Nat.reduceEqDiff, k17]; done) | (simp only [zfa, ↓reduceIte, Nat.reduceEqDiff, k17]; rfl)), Nat.zero_le _⟩
  clear e1 e5 e7 e8 e10 e11 e13 e14 j5 j8 k16 k17 h12
  intro rr i hr ih env st2 ⟨e1, e5, e7, e8, e10, e11, e12, e15, ap2, j5, j8, k16, k17, hi⟩
  by_cases hlt : i < s.length
  · have q1 : (i : Int) < (s.length : Int) := by omega
    have q2 : (0 : Int) ≤ (i : Int) := by omega
    have c8 := (s.getD i 0).toNat_lt
    have cv := fun st => conv5_3 st (s.getD i 0).toNat (by omega)
    obtain ⟨x', s', a1, a2, a3⟩ := ap2.push (by rw [bytesI_len, List.length_take]; omega) ((s.getD i 0).toNat : Int)
    have f5 := i_add Tryd.prog 3 (i : Int) 1 (by omega) (by omega)
    have hm : bytesI (s.take (i + 1)) = bytesI (s.take i) ++ [((s.getD i 0).toNat : Int)] := by
      rw [List.take_succ_eq_append_getElem hlt, bytesI, List.map_append, List.getD_eq_getElem?_getD, List.getElem?_eq_getElem hlt]; rfl
    simp only [zaa, zab, zac, zad, zae, zaf, zag, zah, zai, zaj, zak, zal, zam, zan, zao, zap, zaq, zar, zas, zat, zau, zav, zaw, zax, zay, zaz, zba, zbb, zbc, zbd, zbe, zbf, zbg, zbh, zbi, zbj, Nat.reduceBEq, Bool.or_self, Bool.or_false, Bool.or_true, Bool.and_true, Bool.and_false, Bool.true_and, Bool.false_and, Option.isNone_none, Option.isNone_some, Option.isSome_some, Option.isSome_none, zbk, zbl, zbm, zbn, zbo, zbp, zbq, zbr, zbs, zbt, zbu, zbv, zbw, zbx, zby, zbz, zca, zcb, zcc, zcd, zce, zcf, zcg, zch, zci, zcj, zck, zcl, zcm, zcn, zco, zcp, zcq, zcr, zcs, zct, zcu, zcv, zcw, zcx, zcy, zcz, zda, zdb, zdc, zdd, zde, zdf, Option.getD_some, Option.getD_none, zet, zeu, zev, zew, zex, zey, zez, zfa, Option.map_some, Option.map_none, Option.bind_some, List.map_cons, List.map_nil, List.cons_append, List.nil_append, ↓reduceIte, Nat.reduceEqDiff, Nat.reduceAdd, decide_true, decide_false, Bool.true_eq_false, Bool.false_eq_true, zdg, zdh, zdi, zdj, zdk, zdl, zdm, zdn, ia22, ld31, zdo, zdp, zdq, zdr, zds, zdt, zdu, zdv, zdw, zdx, zdy, zdz, zea, zeb, zec, fa_0, fa_1, zed, bd_0, bd_2, zee, fd_1, zef, Nat.zero_add, zeg, List.toList_toArray, len9, ix9, zeh, zei, zej, zek, zel, e1, e5, e7, e8, e10, e11, e12, e15, q1, q2, and_self, Int.toNat_natCast, cv, opA_oneI, oneI_int, a1, f5]
    exact ih (i + 1) _ _ (by omega) rfl ⟨(by first | (simp only [zfa, ↓reduceIte, Nat.reduceEqDiff, e1]; done) | (simp only [zfa, ↓reduceIte, Nat.reduceEqDiff, e1]; rfl)), (by first | (simp only [zfa, ↓reduceIte, Nat.reduceEqDiff, e5]; done) | (simp only [zfa, ↓reduceIte, Nat.reduceEqDiff, e5]; rfl)), (by first | (simp only [zfa, ↓reduceIte, Nat.reduceEqDiff, e7]; done) | (simp only [zfa, ↓reduceIte, Nat.reduceEqDiff, e7]; rfl)), (by first | (simp only [zfa, ↓reduceIte, Nat.reduceEqDiff, e8]; done) | (simp only [zfa, ↓reduceIte, Nat.reduceEqDiff, e8]; rfl)), (by first | (simp only [zfa, ↓reduceIte, Nat.reduceEqDiff, e10]; done) | (simp only [zfa, ↓reduceIte, Nat.reduceEqDiff, e10]; rfl)), (by first | (simp only [zfa, ↓reduceIte, Nat.reduceEqDiff, e11]; done) | (simp only [zfa, ↓reduceIte, Nat.reduceEqDiff, e11]; rfl)), (by first | (simp only [zfa, ↓reduceIte, Nat.reduceEqDiff, e12]; done) | (simp only [zfa, ↓reduceIte, Nat.reduceEqDiff, e12]; rfl)), (by first | (simp only [zfa, ↓reduceIte, Nat.reduceEqDiff]; done) | (simp only [zfa, ↓reduceIte, Nat.reduceEqDiff]; rfl)), by rw [hm]; exact a2, by rw [a3 5 (by decide)]; exact j5, by rw [a3 8 (by decide)]; exact j8, by rw [a3 16 (by decide)]; exact k16, by rw [a3 17 (by decide)]; exact k17, by omega⟩
  have hie : i = s.length := by omega
  subst hie
  have q1 : ¬ (s.length : Int) < (s.length : Int) := by omega
  rw [List.take_length] at ap2
  generalize h13 : env 13 = x13 at ap2
  simp only [zaa, zab, zac, zad, zae, zaf, zag, zah, zai, zaj, zak, zal, zam, zan, zao, zap, zaq, zar, zas, zat, zau, zav, zaw, zax, zay, zaz, zba, zbb, zbc, zbd, zbe, zbf, zbg, zbh, zbi, zbj, Nat.reduceBEq, Bool.or_self, Bool.or_false, Bool.or_true, Bool.and_true, Bool.and_false, Bool.true_and, Bool.false_and, Option.isNone_none, Option.isNone_some, Option.isSome_some, Option.isSome_none, zbk, zbl, zbm, zbn, zbo, zbp, zbq, zbr, zbs, zbt, zbu, zbv, zbw, zbx, zby, zca, zcb, zcc, zce, zcf, zch, zci, zcj, zck, zcl, zcm, zcn, zco, zcp, zcq, zcr, zcs, zct, zcu, zcv, zcw, zcx, zcy, zcz, zda, zdb, zdc, zdd, zde, zdf, Option.getD_some, Option.getD_none, zet, zeu, zev, zew, zex, zey, zez, zfa, Option.map_some, Option.map_none, Option.bind_some, List.map_cons, List.map_nil, List.cons_append, List.nil_append, ↓reduceIte, Nat.reduceEqDiff, Nat.reduceAdd, decide_true, decide_false, Bool.true_eq_false, Bool.false_eq_true, zbz, zdg, zdh, zdi, zdj, zdk, zdl, zdm, zdn, ia22, ld31, zdo, zdp, zdq, zdr, zds, zdt, zdu, zdv, zdw, zdx, zdy, zdz, zea, zeb, zec, fa_0, fa_1, zed, bd_0, bd_2, zee, fd_1, zef, Nat.zero_add, zeg, List.toList_toArray, len9, ix9, zeh, zei, zej, zek, zel, e1, e5, e7, e8, e10, e11, e12, e15, q1]
  rw [zcg, zcd, if_pos rfl, zbz]
  exact bt10_eq R hR b l hL s hs x12 x13 st st2 X hX ap ap2 _ _ (by first | (simp only [zfa, ↓reduceIte, Nat.reduceEqDiff, e5]; done) | (simp only [zfa, ↓reduceIte, Nat.reduceEqDiff, e5]; rfl)) (by first | (simp only [zfa, ↓reduceIte, Nat.reduceEqDiff, e7]; done) | (simp only [zfa, ↓reduceIte, Nat.reduceEqDiff, e7]; rfl)) (by first | (simp only [zfa, ↓reduceIte, Nat.reduceEqDiff, e8]; done) | (simp only [zfa, ↓reduceIte, Nat.reduceEqDiff, e8]; rfl)) (by first | (simp only [zfa, ↓reduceIte, Nat.reduceEqDiff, e10]; done) | (simp only [zfa, ↓reduceIte, Nat.reduceEqDiff, e10]; rfl)) (by first | (simp only [zfa, ↓reduceIte, Nat.reduceEqDiff, e11]; done) | (simp only [zfa, ↓reduceIte, Nat.reduceEqDiff, e11]; rfl)) (by first | (simp only [zfa, ↓reduceIte, Nat.reduceEqDiff, e12]; done) | (simp only [zfa, ↓reduceIte, Nat.reduceEqDiff, e12]; rfl)) (by first | (simp only [zfa, ↓reduceIte, Nat.reduceEqDiff, h13]; done) | (simp only [zfa, ↓reduceIte, Nat.reduceEqDiff, h13]; rfl)) (by first | (simp only [zfa, ↓reduceIte, Nat.reduceEqDiff, j5]; done) | (simp only [zfa, ↓reduceIte, Nat.reduceEqDiff, j5]; rfl)) (by first | (simp only [zfa, ↓reduceIte, Nat.reduceEqDiff, j8]; done) | (simp only [zfa, ↓reduceIte, Nat.reduceEqDiff, j8]; rfl)) (by first | (simp only [zfa, ↓reduceIte, Nat.reduceEqDiff, k16]; done) | (simp only [zfa, ↓reduceIte, Nat.reduceEqDiff, k16]; rfl)) (by first | (simp only [zfa, ↓reduceIte, Nat.reduceEqDiff, k17]; done) | (simp only [zfa, ↓reduceIte, Nat.reduceEqDiff, k17]; rfl))
end Go.Ab

/- The walk of BifTexts: it gives true, and leaves memory below as it was. No conditions. -/
namespace Go.Ab
open Go.Proofs Go.RowKit
theorem walkBTexts (v0 : Value) (s : ByteArray) (w : World) (h0 : IsNum w v0) :
    Calls Tryd.prog 5 #[v0, .string s] w fun e w' => e = .returned (.bool true) ∧ Below w.heap.size w w' := by
  obtain ⟨b0, l0, g0, k0⟩ := numOf h0
  refine lawCalls mixed (vs := [v0, .string s]) (texts_B 1000000 (Nat.le_refl _) b0 l0 g0 s.data.toList) rfl (st0_2 _ _) (fun j v hj => ?_) true rfl
  match j, hj with
  | 0, hj => cases hj; exact ⟨k0, isTree_N _ _ _⟩
  | 1, hj => cases hj; exact ⟨by simp [env0, V0], rfl⟩
end Go.Ab
