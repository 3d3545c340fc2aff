/- Several texts put together: AbzC4, AbzC5, AbzLawBOrders. Conditions: as each part says. -/
import Derived.Test.YtpgnjcckmmkmkaaGreatDoorAbBOrdersZ09
import Derived.Test.YtpgnjcckmmkmkaaGreatDoorAbBOrdersZ07
/- The statement BifOrders, its end. Conditions: terms that may be. -/
namespace Go.Ab
open Go.Proofs
set_option maxRecDepth 100000
set_option linter.unusedSimpArgs false

mutual
theorem few_node (N : Nat) : ∀ t : T, leanT t → nodT t ≤ N → 41 ≤ N → fewT (N + 1) t
  | .mk k b lg l s m kg ks, h, hn, h41 => by
    simp only [leanT] at h
    simp only [nodT] at hn
    have := nodK_len ks
    simp only [fewT]
    exact ⟨by omega, by omega, few_nodeK N ks h.2.2 (by omega) h41⟩
theorem few_nodeK (N : Nat) : ∀ ks : List T, leanK ks → nodK ks ≤ N → 41 ≤ N → fewK (N + 1) ks
  | [], _, _, _ => by simp only [fewK]
  | t :: r, h, hn, h41 => by
    simp only [leanK] at h
    simp only [nodK] at hn
    have := nod_pos t
    simp only [fewK]
    exact ⟨few_node N t h.1 (by omega) h41, few_nodeK N r h.2 (by omega) h41⟩
end
mutual
theorem fewT_le {m m' : Nat} (h : m ≤ m') : ∀ t : T, fewT m t → fewT m' t
  | .mk k b lg l s n kg ks, ht => by
    simp only [fewT] at ht ⊢
    exact ⟨by omega, by omega, fewK_le h ks ht.2.2⟩
theorem fewK_le {m m' : Nat} (h : m ≤ m') : ∀ ks : List T, fewK m ks → fewK m' ks
  | [], _ => by simp only [fewK]
  | t :: r, ht => by
    simp only [fewK] at ht ⊢
    exact ⟨fewT_le h t ht.1, fewK_le h r ht.2⟩
end
noncomputable def codeBO : Code := (Tryz.f4.body).getD .skip
noncomputable def bo1 : Code := seqR codeBO
noncomputable def bo2 : Code := seqR bo1
noncomputable def bo3 : Code := seqR bo2
noncomputable def bo4 : Code := seqR bo3
noncomputable def bo5 : Code := seqR bo4
noncomputable def bo6 : Code := seqR bo5
noncomputable def bo7 : Code := seqR bo6
theorem ldT_cS (t k : Nat) (u : T) : ldE Tryz.prog 9 ⟨t, .buf (cellsT u)⟩ k 3 = if t = k then some (.str (strT u)) else none := by
  obtain ⟨a, b, c, d, e, f, g, h⟩ := u
  simp only [cellsT, strT]
  exact ldT_2 _ _ _ _ _ _ _ _
theorem ldT_cI (t k : Nat) (u : T) : ldE Tryz.prog 3 ⟨t, .buf (cellsT u)⟩ k 0 = if t = k then some (.int .i64 (kindT u)) else none := by
  obtain ⟨a, b, c, d, e, f, g, h⟩ := u
  simp only [cellsT, kindT]
  exact ldT_0 _ _ _ _ _ _ _ _
section
variable (R : Nat) (hR : 1000000 ≤ R) (a b : T) (l : List T) (n : Int) (ga : goodT a) (gb : goodT b) (na : nodT a ≤ 200) (nb : nodT b ≤ 200)
include hR na nb
set_option maxHeartbeats 16000000 in
theorem bo7_eq (x y z : T) (m : List T) (tt : Nat) (gx : goodT x) (gy : goodT y) (gz : goodT z) (nx : nodT x ≤ 200) (ny : nodT y ≤ 200) (nz : nodT z ≤ 200)
    (sxz : sameT x z = true) (d1 : (sameT x a = true ∧ sameT y b = true) ∨ (sameT x a = false ∧ sameT x b = true ∧ sameT y a = true)) (cxy : cmpT x y ≥ 0) (ham : a ∈ m) (hml : m.length ≤ 14) (hlt : ∀ t ∈ m, fewT 100000 t ∧ nodT t ≤ 200)
    (env : Env) (st : St) (e4 : env 4 = .ptr 4 1 0) (e5 : env 5 = .ptr 5 1 0) (e9 : env 9 = .ptr 9 1 0) (e11 : env 11 = .bool true) (e12 : env 12 = .ptr 12 1 0) (e14 : env 14 = .bool true) (e15 : env 15 = .ptr 15 1 0) (e17 : env 17 = .bool true) (e19 : env 19 = .sl (cellsK m) m.length (.tok 83 tt))
    (j4 : st 4 = ⟨1, .buf (cellsT a)⟩) (j5 : st 5 = ⟨1, .buf (cellsT b)⟩) (j9 : st 9 = ⟨1, .buf (cellsT x)⟩) (j12 : st 12 = ⟨1, .buf (cellsT y)⟩) (j15 : st 15 = ⟨1, .buf (cellsT z)⟩) (k20 : (st 20).t = 0) (k21 : (st 21).t = 0) :
    den Tryz.prog cfg0 (evalFn Tryz.prog cfg0 R 6199) R bo7 (finK Tryz.prog (cfg0.keep 4) [.tree (encT a), .tree (encT b), .tree (.sl (cellsK l) l.length .loose), .tree (.int .i64 n)] Tryz.f4.results) env st = some (.tree (.bool true), [[], [], [], []]) := by
  have wa := fun D st => callA_trees (cfg := cfg0) (d := D) (s := st) (f := 7) (vs := []) rfl (evalFn_mono (show 100000 ≤ R by omega) 60 6199 (by decide) _ _ _ awakeB_eq)
  have cl := callQ_loose (call := evalFn Tryz.prog cfg0 R 6199) (f := 16) (vs := [.sl (cellsK m) m.length (.tok 83 tt), encT nilT']) (vs' := [.sl (cellsK m) m.length .loose, encT nilT']) rfl rfl rfl (rList_eq R 6198 m .loose nilT' (by omega) (by omega))
  have hm := callL_eq R 6198 sMem a (listT m nilT') (atomT sTrue) (evalFn_mono (show 100000 ≤ R by omega) 20 6198 (by decide) _ _ _ hasMem)
    (answer2_eq R 6197 sMem _ _ _ true (twoMem_eq R 6196 a (listT m nilT') (atomT sTrue) true (member_eq R 6194 (by omega) a m (listT m nilT') (itT_list m 2001 [] (by omega)) (by omega) ham
      (fun t ht => evalFn_mono (show 100000 ≤ R by omega) 6195 6195 (Nat.le_refl _) _ _ _ (tsame_eq 2000 6195 t a (by have := ht_nod t; have := (hlt t ht).2; omega) (by decide) (hlt t ht).1)))))
    (evalFn_mono (show 1000000 ≤ R from hR) 6198 6198 (Nat.le_refl _) _ _ _ (tNodes_eq 1000000 (Nat.le_refl _) 6198 (atomT sTrue) (by show 1 ≤ 6198; decide) (by show 1 < 1000000; decide))) (by show 1 ≤ 2000; decide)
  have cm := callQ_trees (f := 8) (vs := [.str sLists, .str sMem, .sl (cellsK [a, listT m nilT']) 2 .tight]) rfl hm
  simp only [encT] at cl cm
  simp only [sLists, sMem] at cm
  have rn (t : T) (ht : nodT t ≤ 200) := callQ_trees (f := 17) (vs := [encT t]) rfl (evalFn_mono (show 1000000 ≤ R from hR) 6199 6199 (Nat.le_refl _) _ _ _ (rnodes_eq 1000000 (Nat.le_refl _) 6199 t (by have := ht_nod t; omega) (by omega)))
  have rna := rn a na
  have rnb := rn b nb
  have sm (p q : T) (gp : goodT p) (hp : nodT p ≤ 200) := fun D st => callA_trees (cfg := cfg0) (d := D) (s := st) (f := 18) (vs := [encT p, encT q]) rfl (evalFn_mono (show 100000 ≤ R by omega) 6199 6199 (Nat.le_refl _) _ _ _ (rsame_eq 100000 (by decide) 6198 6199 p q (by have := ht_nod p; omega) (by decide) (good_few p gp)))
  have s1 := sm x z gx nx
  have s2 := sm x a gx nx
  have s3 := sm y b gy ny
  have s4 := sm x b gx nx
  have s5 := sm y a gy ny
  have rc := fun D st => callA_trees (cfg := cfg0) (d := D) (s := st) (f := 19) (vs := [encT x, encT y]) rfl (evalFn_mono (show 100000 ≤ R by omega) 6199 6199 (Nat.le_refl _) _ _ _ (rcmpT_eq 6193 6199 x y (by have := ht_nod x; omega) (by decide) gx gy))
  rw [sxz] at s1
  simp only [encT] at rna rnb s1 s2 s3 s4 s5 rc
  have f5 := i_add Tryz.prog 3 (nodT a : Int) (nodT b : Int) (by omega) (by omega)
  have st1 : strT (atomT sTrue) = sTrue := rfl
  have kt1 : kindT (atomT sTrue) = 2 := rfl
  have w7 : (sTrue == ([116, 114, 117, 101] : List UInt8)) = true := by decide
  by_cases h150 : ((nodT a : Int) + (nodT b : Int)) > 150
  · simp only [bo7, bo6, bo5, bo4, bo3, bo2, bo1, codeBO, seqR, Tryz.f4, Option.getD_some, zaa, zab, zac, zad, zae, zaf, zag, zah, zai, zaj, zak, zal, zam, zan, zao, zap, zaq, zar, zas, zat, zau, zav, zaw, zax, zay, zaz, zba, zbb, zbc, zbd, zbe, zbf, zbg, zbh, zbi, zbj, zbk, zbl, zbm, zbn, zbo, zbp, zbq, Nat.reduceBEq, Bool.or_self, Bool.or_false, Bool.or_true, Bool.and_true, Bool.and_false, Bool.true_and, Bool.false_and, Option.isNone_none, Option.isNone_some, Option.isSome_some, Option.isSome_none, zbr, zbs, zbt, zbu, zbv, zbw, zbx, zby, zbz, zca, zcb, zcc, zcd, zce, zcf, zcg, zch, zci, zcj, zck, zcl, zcm, zcn, zco, zcp, zcq, zcr, zcs, zct, zcu, zcv, zcw, zcx, zcy, zcz, zda, zdb, zdc, zdd, zde, zdf, zdg, zdh, zdi, zdj, zdk, zdl, zdm, zdn, zdo, zdp, zdq, zdr, zds, Option.getD_some, Option.getD_none, zfg, zfh, zfi, zfj, zfk, zfl, zfm, zfn, Option.map_some, Option.map_none, Option.bind_some, List.map_cons, List.map_nil, List.cons_append, List.nil_append, ↓reduceIte, Nat.reduceEqDiff, Nat.reduceAdd, decide_true, decide_false, Bool.true_eq_false, Bool.false_eq_true, env0, List.getElem?_cons_zero, List.getElem?_cons_succ, zdt, zdu, zdv, zdw, zdx, zdy, zdz, zea, ia22, ld31, zeb, zec, zed, zee, zef, zeg, zeh, zei, zej, zek, zel, zem, zen, zeo, zep, fa_0, fa_1, zeq, bd_0, bd_2, zer, fd_1, zes, Nat.zero_add, zet, List.toList_toArray, len9, ix9, zeu, zev, zew, zex, zey, zeroT, zeroE, e4, e5, e9, e11, e12, e14, e15, e17, e19, j4, j5, j9, j12, j15, k20, k21, ldT_u, bdN3, cl, opA_duo26, duo26_T, cm, zds, st_Tt, stT_6, st_E, stE_z, rna, rnb, f5, h150, wa]
    exact finish_b _ _ _ _ _ _ _ (by first | (simp only [zfn, ↓reduceIte, Nat.reduceEqDiff]; done) | (simp only [zfn, ↓reduceIte, Nat.reduceEqDiff]; rfl)) rfl
  rcases d1 with ⟨d1, d2⟩ | ⟨d1, d2, d3⟩
  · rw [d1] at s2
    rw [d2] at s3
    simp only [bo7, bo6, bo5, bo4, bo3, bo2, bo1, codeBO, seqR, Tryz.f4, Option.getD_some, zaa, zab, zac, zad, zae, zaf, zag, zah, zai, zaj, zak, zal, zam, zan, zao, zap, zaq, zar, zas, zat, zau, zav, zaw, zax, zay, zaz, zba, zbb, zbc, zbd, zbe, zbf, zbg, zbh, zbi, zbj, zbk, zbl, zbm, zbn, zbo, zbp, zbq, Nat.reduceBEq, Bool.or_self, Bool.or_false, Bool.or_true, Bool.and_true, Bool.and_false, Bool.true_and, Bool.false_and, Option.isNone_none, Option.isNone_some, Option.isSome_some, Option.isSome_none, zbr, zbs, zbt, zbu, zbv, zbw, zbx, zby, zbz, zca, zcb, zcc, zcd, zce, zcf, zcg, zch, zci, zcj, zck, zcl, zcm, zcn, zco, zcp, zcq, zcr, zcs, zct, zcu, zcv, zcw, zcx, zcy, zcz, zda, zdb, zdc, zdd, zde, zdf, zdg, zdh, zdi, zdj, zdk, zdl, zdm, zdn, zdo, zdp, zdq, zdr, zds, Option.getD_some, Option.getD_none, zfg, zfh, zfi, zfj, zfk, zfl, zfm, zfn, Option.map_some, Option.map_none, Option.bind_some, List.map_cons, List.map_nil, List.cons_append, List.nil_append, ↓reduceIte, Nat.reduceEqDiff, Nat.reduceAdd, decide_true, decide_false, Bool.true_eq_false, Bool.false_eq_true, env0, List.getElem?_cons_zero, List.getElem?_cons_succ, zdt, zdu, zdv, zdw, zdx, zdy, zdz, zea, ia22, ld31, zeb, zec, zed, zee, zef, zeg, zeh, zei, zej, zek, zel, zem, zen, zeo, zep, fa_0, fa_1, zeq, bd_0, bd_2, zer, fd_1, zes, Nat.zero_add, zet, List.toList_toArray, len9, ix9, zeu, zev, zew, zex, zey, zeroT, zeroE, e4, e5, e9, e11, e12, e14, e15, e17, e19, j4, j5, j9, j12, j15, k20, k21, ldT_u, bdN3, cl, opA_duo26, duo26_T, cm, zds, st_Tt, stT_6, st_E, stE_z, rna, rnb, f5, h150, s1, s2, s3, rc, cxy, faT_2, faT_0, Nat.reduceAdd, ldT_cS, ldT_cI, st1, kt1, s_eqlS, w7, i_eqlV, Int.reduceBEq, wa]
    exact finish_b _ _ _ _ _ _ _ (by first | (simp only [zfn, ↓reduceIte, Nat.reduceEqDiff]; done) | (simp only [zfn, ↓reduceIte, Nat.reduceEqDiff]; rfl)) rfl
  · rw [d1] at s2
    rw [d2] at s4
    rw [d3] at s5
    simp only [bo7, bo6, bo5, bo4, bo3, bo2, bo1, codeBO, seqR, Tryz.f4, Option.getD_some, zaa, zab, zac, zad, zae, zaf, zag, zah, zai, zaj, zak, zal, zam, zan, zao, zap, zaq, zar, zas, zat, zau, zav, zaw, zax, zay, zaz, zba, zbb, zbc, zbd, zbe, zbf, zbg, zbh, zbi, zbj, zbk, zbl, zbm, zbn, zbo, zbp, zbq, Nat.reduceBEq, Bool.or_self, Bool.or_false, Bool.or_true, Bool.and_true, Bool.and_false, Bool.true_and, Bool.false_and, Option.isNone_none, Option.isNone_some, Option.isSome_some, Option.isSome_none, zbr, zbs, zbt, zbu, zbv, zbw, zbx, zby, zbz, zca, zcb, zcc, zcd, zce, zcf, zcg, zch, zci, zcj, zck, zcl, zcm, zcn, zco, zcp, zcq, zcr, zcs, zct, zcu, zcv, zcw, zcx, zcy, zcz, zda, zdb, zdc, zdd, zde, zdf, zdg, zdh, zdi, zdj, zdk, zdl, zdm, zdn, zdo, zdp, zdq, zdr, zds, Option.getD_some, Option.getD_none, zfg, zfh, zfi, zfj, zfk, zfl, zfm, zfn, Option.map_some, Option.map_none, Option.bind_some, List.map_cons, List.map_nil, List.cons_append, List.nil_append, ↓reduceIte, Nat.reduceEqDiff, Nat.reduceAdd, decide_true, decide_false, Bool.true_eq_false, Bool.false_eq_true, env0, List.getElem?_cons_zero, List.getElem?_cons_succ, zdt, zdu, zdv, zdw, zdx, zdy, zdz, zea, ia22, ld31, zeb, zec, zed, zee, zef, zeg, zeh, zei, zej, zek, zel, zem, zen, zeo, zep, fa_0, fa_1, zeq, bd_0, bd_2, zer, fd_1, zes, Nat.zero_add, zet, List.toList_toArray, len9, ix9, zeu, zev, zew, zex, zey, zeroT, zeroE, e4, e5, e9, e11, e12, e14, e15, e17, e19, j4, j5, j9, j12, j15, k20, k21, ldT_u, bdN3, cl, opA_duo26, duo26_T, cm, zds, st_Tt, stT_6, st_E, stE_z, rna, rnb, f5, h150, s1, s2, s4, s5, rc, cxy, faT_2, faT_0, Nat.reduceAdd, ldT_cS, ldT_cI, st1, kt1, s_eqlS, w7, i_eqlV, Int.reduceBEq, wa]
    exact finish_b _ _ _ _ _ _ _ (by first | (simp only [zfn, ↓reduceIte, Nat.reduceEqDiff]; done) | (simp only [zfn, ↓reduceIte, Nat.reduceEqDiff]; rfl)) rfl
omit na nb in
include ga in
set_option maxHeartbeats 16000000 in
theorem bo5_eq (na : nodT a ≤ 200) (nb : nodT b ≤ 200) (x y z : T) (gx : goodT x) (gy : goodT y) (gz : goodT z) (nx : nodT x ≤ 200) (ny : nodT y ≤ 200) (nz : nodT z ≤ 200)
    (sxz : sameT x z = true) (d1 : (sameT x a = true ∧ sameT y b = true) ∨ (sameT x a = false ∧ sameT x b = true ∧ sameT y a = true)) (cxy : cmpT x y ≥ 0) (hml : l.length ≤ 12) (hlt : ∀ t ∈ l, fewT 100000 t ∧ nodT t ≤ 200)
    (env : Env) (st : St) (q2 : env 2 = .sl (cellsK l) l.length .loose) (q3 : env 3 = .int .i64 n) (e4 : env 4 = .ptr 4 1 0) (e5 : env 5 = .ptr 5 1 0) (e9 : env 9 = .ptr 9 1 0) (e11 : env 11 = .bool true) (e12 : env 12 = .ptr 12 1 0) (e14 : env 14 = .bool true) (e15 : env 15 = .ptr 15 1 0) (e17 : env 17 = .bool true)
    (j4 : st 4 = ⟨1, .buf (cellsT a)⟩) (j5 : st 5 = ⟨1, .buf (cellsT b)⟩) (j9 : st 9 = ⟨1, .buf (cellsT x)⟩) (j12 : st 12 = ⟨1, .buf (cellsT y)⟩) (j15 : st 15 = ⟨1, .buf (cellsT z)⟩) (k20 : (st 20).t = 0) (k21 : (st 21).t = 0) :
    den Tryz.prog cfg0 (evalFn Tryz.prog cfg0 R 6199) R bo5 (finK Tryz.prog (cfg0.keep 4) [.tree (encT a), .tree (encT b), .tree (.sl (cellsK l) l.length .loose), .tree (.int .i64 n)] Tryz.f4.results) env st = some (.tree (.bool true), [[], [], [], []]) := by
  have hp := place_range n ((l.length : Int) + 1) (by omega)
  have cp := fun D st => cPlace R 6198 n ((l.length : Int) + 1) (by omega) (by omega) D st
  obtain ⟨k, hk⟩ : ∃ k : Nat, placeN n ((l.length : Int) + 1) = (k : Int) := ⟨(placeN n ((l.length : Int) + 1)).toNat, by omega⟩
  rw [hk] at cp hp
  have hkl : k ≤ l.length := by omega
  have f5 := i_add Tryz.prog 3 (l.length : Int) 1 (by omega) (by omega)
  have s1 := fun st => slK_hi st l k hkl
  have s2 := fun st => slK_lo st l k hkl
  have ham : a ∈ (l.take k ++ [a]) ++ l.drop k := by simp
  have hln : (l.take k).length ≤ 12 := by rw [List.length_take]; omega
  have hln2 : (l.take k).length + (l.drop k).length = l.length := by rw [← List.length_append, List.take_append_drop]
  have hl14 : ((l.take k ++ [a]) ++ l.drop k).length ≤ 14 := by simp only [List.length_append, List.length_cons, List.length_nil]; omega
  have a1 := fun s => appN 76 s (l.take k) .loose (by omega)
  have a2 := fun s t hs => appTk 79 s (l.take k) [a] .tight 76 t hs (by simp only [List.length_cons, List.length_nil]; omega)
  have a3 := fun s t hs => appTk 83 s (l.take k ++ [a]) (l.drop k) .loose 79 t hs (by simp only [List.length_append, List.length_cons, List.length_nil]; omega)
  have hall : ∀ t ∈ (l.take k ++ [a]) ++ l.drop k, fewT 100000 t ∧ nodT t ≤ 200 := by
    intro t ht
    rcases List.mem_append.mp ht with ht | ht
    · rcases List.mem_append.mp ht with ht | ht
      · exact hlt t (List.mem_of_mem_take ht)
      · rw [List.mem_singleton.mp ht]; exact ⟨good_few a ga, na⟩
    · exact hlt t (List.mem_of_mem_drop ht)
  have it1 : isTree (.sl (cellsK (l.take k)) (l.take k).length .loose) = true := rfl
  have hb : bo5 = .seq (seqL bo5) (.seq (seqL bo6) bo7) := rfl
  rw [hb]
  simp only [seqL, bo6, bo5, bo4, bo3, bo2, bo1, codeBO, seqR, Tryz.f4, Option.getD_some, zaa, zab, zac, zad, zae, zaf, zag, zah, zai, zaj, zak, zal, zam, zan, zao, zap, zaq, zar, zas, zat, zau, zav, zaw, zax, zay, zaz, zba, zbb, zbc, zbd, zbe, zbf, zbg, zbh, zbi, zbj, zbk, zbl, zbm, zbn, zbo, zbp, zbq, Nat.reduceBEq, Bool.or_self, Bool.or_false, Bool.or_true, Bool.and_true, Bool.and_false, Bool.true_and, Bool.false_and, Option.isNone_none, Option.isNone_some, Option.isSome_some, Option.isSome_none, zbr, zbs, zbt, zbu, zbv, zbw, zbx, zby, zbz, zca, zcb, zcc, zcd, zce, zcf, zcg, zch, zci, zcj, zck, zcl, zcm, zcn, zco, zcp, zcq, zcr, zcs, zct, zcu, zcv, zcw, zcx, zcy, zcz, zda, zdb, zdc, zdd, zde, zdf, zdg, zdh, zdi, zdj, zdk, zdl, zdm, zdn, zdo, zdp, zdq, zdr, zds, Option.getD_some, Option.getD_none, zfg, zfh, zfi, zfj, zfk, zfl, zfm, zfn, Option.map_some, Option.map_none, Option.bind_some, List.map_cons, List.map_nil, List.cons_append, List.nil_append, ↓reduceIte, Nat.reduceEqDiff, Nat.reduceAdd, decide_true, decide_false, Bool.true_eq_false, Bool.false_eq_true, env0, List.getElem?_cons_zero, List.getElem?_cons_succ, zdt, zdu, zdv, zdw, zdx, zdy, zdz, zea, ia22, ld31, zeb, zec, zed, zee, zef, zeg, zeh, zei, zej, zek, zel, zem, zen, zeo, zep, fa_0, fa_1, zeq, bd_0, bd_2, zer, fd_1, zes, Nat.zero_add, q2, q3, e4, e5, e9, e11, e12, e14, e15, e17, j4, j5, j9, j12, j15, lenTk, f5, cp, s1, s2, ldT_u, opA_one26, one26_K, it1, a1, a2, a3]
  exact bo7_eq R hR a b l n na nb x y z ((l.take k ++ [a]) ++ l.drop k) _ gx gy gz nx ny nz sxz d1 cxy ham hl14 hall _ _ (by first | (simp only [zfn, ↓reduceIte, Nat.reduceEqDiff, e4]; done) | (simp only [zfn, ↓reduceIte, Nat.reduceEqDiff, e4]; rfl)) (by first | (simp only [zfn, ↓reduceIte, Nat.reduceEqDiff, e5]; done) | (simp only [zfn, ↓reduceIte, Nat.reduceEqDiff, e5]; rfl)) (by first | (simp only [zfn, ↓reduceIte, Nat.reduceEqDiff, e9]; done) | (simp only [zfn, ↓reduceIte, Nat.reduceEqDiff, e9]; rfl)) (by first | (simp only [zfn, ↓reduceIte, Nat.reduceEqDiff, e11]; done) | (simp only [zfn, ↓reduceIte, Nat.reduceEqDiff, e11]; rfl)) (by first | (simp only [zfn, ↓reduceIte, Nat.reduceEqDiff, e12]; done) | (simp only [zfn, ↓reduceIte, Nat.reduceEqDiff, e12]; rfl)) (by first | (simp only [zfn, ↓reduceIte, Nat.reduceEqDiff, e14]; done) | (simp only [zfn, ↓reduceIte, Nat.reduceEqDiff, e14]; rfl)) (by first | (simp only [zfn, ↓reduceIte, Nat.reduceEqDiff, e15]; done) | (simp only [zfn, ↓reduceIte, Nat.reduceEqDiff, e15]; rfl)) (by first | (simp only [zfn, ↓reduceIte, Nat.reduceEqDiff, e17]; done) | (simp only [zfn, ↓reduceIte, Nat.reduceEqDiff, e17]; rfl)) (by first | (simp only [zfn, ↓reduceIte, Nat.reduceEqDiff]; done) | (simp only [zfn, ↓reduceIte, Nat.reduceEqDiff]; rfl)) (by first | (simp only [zfn, ↓reduceIte, Nat.reduceEqDiff, j4]; done) | (simp only [zfn, ↓reduceIte, Nat.reduceEqDiff, j4]; rfl)) (by first | (simp only [zfn, ↓reduceIte, Nat.reduceEqDiff, j5]; done) | (simp only [zfn, ↓reduceIte, Nat.reduceEqDiff, j5]; rfl)) (by first | (simp only [zfn, ↓reduceIte, Nat.reduceEqDiff, j9]; done) | (simp only [zfn, ↓reduceIte, Nat.reduceEqDiff, j9]; rfl)) (by first | (simp only [zfn, ↓reduceIte, Nat.reduceEqDiff, j12]; done) | (simp only [zfn, ↓reduceIte, Nat.reduceEqDiff, j12]; rfl)) (by first | (simp only [zfn, ↓reduceIte, Nat.reduceEqDiff, j15]; done) | (simp only [zfn, ↓reduceIte, Nat.reduceEqDiff, j15]; rfl)) (by first | (simp only [zfn, ↓reduceIte, Nat.reduceEqDiff, k20]; done) | (simp only [zfn, ↓reduceIte, Nat.reduceEqDiff, k20]; rfl)) (by first | (simp only [zfn, ↓reduceIte, Nat.reduceEqDiff, k21]; done) | (simp only [zfn, ↓reduceIte, Nat.reduceEqDiff, k21]; rfl))
end
end Go.Ab

/- The statement BifOrders. Conditions: terms; limbs, texts in range. -/
namespace Go.Ab
open Go.Proofs
set_option maxRecDepth 100000
set_option linter.unusedSimpArgs false

theorem max_or (a b : T) : maxT a b = a ∨ maxT a b = b := by unfold maxT; split <;> simp
theorem min_or (a b : T) : minT a b = a ∨ minT a b = b := by unfold minT; split <;> simp
theorem mm_facts (a b : T) (ga : goodT a) (gb : goodT b) (na : nodT a ≤ 2000) (nb : nodT b ≤ 2000) :
    sameT (maxT a b) (maxT b a) = true ∧ ((sameT (maxT a b) a = true ∧ sameT (minT a b) b = true) ∨ (sameT (maxT a b) a = false ∧ sameT (maxT a b) b = true ∧ sameT (minT a b) a = true)) ∧ cmpT (maxT a b) (minT a b) ≥ 0 := by
  have m1 := cmp_neg 2000 a b na ga gb
  have m3 := cmp_same 2000 a b na ga gb
  have m4 := cmp_neg 2000 a a na ga ga
  have m5 := cmp_same 2000 b a nb gb ga
  by_cases h0 : cmpT a b = 0
  · have e1 : maxT a b = a := if_pos (by omega)
    have e2 : minT a b = a := if_pos (by omega)
    have e3 : maxT b a = b := if_pos (by omega)
    rw [e1, e2, e3]
    exact ⟨m3.mp h0, .inl ⟨same_refl a, m3.mp h0⟩, by omega⟩
  by_cases h : cmpT a b ≥ 0
  · have e1 : maxT a b = a := if_pos h
    have e2 : minT a b = b := if_neg (by omega)
    have e3 : maxT b a = a := if_neg (by omega)
    rw [e1, e2, e3]
    exact ⟨same_refl a, .inl ⟨same_refl a, same_refl b⟩, h⟩
  · have e1 : maxT a b = b := if_neg h
    have e2 : minT a b = a := if_pos (by omega)
    have e3 : maxT b a = b := if_pos (by omega)
    rw [e1, e2, e3]
    have hs : sameT b a = false := by
      cases hs : sameT b a with
      | false => rfl
      | true => have := m5.mpr hs; omega
    exact ⟨same_refl b, .inr ⟨hs, same_refl b, same_refl a⟩, by omega⟩
set_option maxHeartbeats 32000000 in
theorem orders_B (R : Nat) (hR : 1000000 ≤ R) (hR2 : R ≤ 9223372036854775808) (a b : T) (l : List T) (n : Int) (ha : bigT R a) (hb : bigT R b) (hl : bigK R l) (fa : fewT R a) (fb : fewT R b) (fl : fewK R l) :
    evalFn Tryz.prog cfg0 R 6200 4 [.tree (encT a), .tree (encT b), .tree (.sl (cellsK l) l.length .loose), .tree (.int .i64 n)] = some (.tree (.bool true), [[], [], [], []]) := by
  rw [evalFn_go _ Tryz.func4 (by unfold Tryz.f4; rfl) (by unfold Tryz.f4; decide) (Nat.le_of_ble_eq_true (by unfold Tryz.f4; rfl)) (by kernel_rfl)]
  have wa := fun D st => callA_trees (cfg := cfg0) (d := D) (s := st) (f := 7) (vs := []) rfl (evalFn_mono (show 100000 ≤ R by omega) 60 6199 (by decide) _ _ _ awakeB_eq)
  have k1 := fun D st => callA_trees (cfg := cfg0) (d := D) (s := st) (f := 14) (vs := [encT a]) rfl (rCheck_eq R (by omega) hR2 4194 a ha)
  have k2 := fun D st => callA_trees (cfg := cfg0) (d := D) (s := st) (f := 14) (vs := [encT b]) rfl (rCheck_eq R (by omega) hR2 4194 b hb)
  have k3 := fun D st => callA_trees (cfg := cfg0) (d := D) (s := st) (f := 6) (vs := [.sl (cellsK l) l.length .loose]) rfl (fewB_eq R 6198 (by omega) hR2 (by decide) l .loose hl fl)
  have k4 := fun D st => callA_trees (cfg := cfg0) (d := D) (s := st) (f := 6) (vs := [.sl (cellsK [a, b]) 2 .tight]) rfl (fewB_eq R 6198 (by omega) hR2 (by decide) [a, b] .tight (by simp only [bigK]; exact ⟨ha, hb, trivial⟩) (by simp only [fewK]; exact ⟨fa, fb, trivial⟩))
  simp only [encT] at k1 k2
  by_cases g1 : rwT a 1 0 ≥ 0
  rotate_left
  · rw [decide_eq_false g1] at k1
    simp only [zaa, zab, zac, zad, zae, zaf, zag, zah, zai, zaj, zak, zal, zam, zan, zao, zap, zaq, zar, zas, zat, zau, zav, zaw, zax, zay, zaz, zba, zbb, zbc, zbd, zbe, zbf, zbg, zbh, zbi, zbj, zbk, zbl, zbm, zbn, zbo, zbp, zbq, Nat.reduceBEq, Bool.or_self, Bool.or_false, Bool.or_true, Bool.and_true, Bool.and_false, Bool.true_and, Bool.false_and, Option.isNone_none, Option.isNone_some, Option.isSome_some, Option.isSome_none, zbr, zbs, zbt, zbu, zbv, zbw, zbx, zby, zbz, zca, zcb, zcc, zcd, zce, zcf, zcg, zch, zci, zcj, zck, zcl, zcm, zcn, zco, zcp, zcq, zcr, zcs, zct, zcu, zcv, zcw, zcx, zcy, zcz, zda, zdb, zdc, zdd, zde, zdf, zdg, zdh, zdi, zdj, zdk, zdl, zdm, zdn, zdo, zdp, zdq, zdr, zds, Option.getD_some, Option.getD_none, zfg, zfh, zfi, zfj, zfk, zfl, zfm, zfn, Option.map_some, Option.map_none, Option.bind_some, List.map_cons, List.map_nil, List.cons_append, List.nil_append, ↓reduceIte, Nat.reduceEqDiff, Nat.reduceAdd, decide_true, decide_false, Bool.true_eq_false, Bool.false_eq_true, env0, List.getElem?_cons_zero, List.getElem?_cons_succ, zdt, zdu, zdv, zdw, zdx, zdy, zdz, zea, ia22, ld31, zeb, zec, zed, zee, zef, zeg, zeh, zei, zej, zek, zel, zem, zen, zeo, zep, fa_0, fa_1, zeq, bd_0, bd_2, zer, fd_1, zes, Nat.zero_add, encT, ldT_u, k1, unA_not', Bool.not_false, wa]
    exact finish_b _ _ _ _ _ _ _ (by first | (simp only [zfn, ↓reduceIte, Nat.reduceEqDiff]; done) | (simp only [zfn, ↓reduceIte, Nat.reduceEqDiff]; rfl)) rfl
  rw [decide_eq_true g1] at k1
  by_cases g2 : rwT b 1 0 ≥ 0
  rotate_left
  · rw [decide_eq_false g2] at k2
    simp only [zaa, zab, zac, zad, zae, zaf, zag, zah, zai, zaj, zak, zal, zam, zan, zao, zap, zaq, zar, zas, zat, zau, zav, zaw, zax, zay, zaz, zba, zbb, zbc, zbd, zbe, zbf, zbg, zbh, zbi, zbj, zbk, zbl, zbm, zbn, zbo, zbp, zbq, Nat.reduceBEq, Bool.or_self, Bool.or_false, Bool.or_true, Bool.and_true, Bool.and_false, Bool.true_and, Bool.false_and, Option.isNone_none, Option.isNone_some, Option.isSome_some, Option.isSome_none, zbr, zbs, zbt, zbu, zbv, zbw, zbx, zby, zbz, zca, zcb, zcc, zcd, zce, zcf, zcg, zch, zci, zcj, zck, zcl, zcm, zcn, zco, zcp, zcq, zcr, zcs, zct, zcu, zcv, zcw, zcx, zcy, zcz, zda, zdb, zdc, zdd, zde, zdf, zdg, zdh, zdi, zdj, zdk, zdl, zdm, zdn, zdo, zdp, zdq, zdr, zds, Option.getD_some, Option.getD_none, zfg, zfh, zfi, zfj, zfk, zfl, zfm, zfn, Option.map_some, Option.map_none, Option.bind_some, List.map_cons, List.map_nil, List.cons_append, List.nil_append, ↓reduceIte, Nat.reduceEqDiff, Nat.reduceAdd, decide_true, decide_false, Bool.true_eq_false, Bool.false_eq_true, env0, List.getElem?_cons_zero, List.getElem?_cons_succ, zdt, zdu, zdv, zdw, zdx, zdy, zdz, zea, ia22, ld31, zeb, zec, zed, zee, zef, zeg, zeh, zei, zej, zek, zel, zem, zen, zeo, zep, fa_0, fa_1, zeq, bd_0, bd_2, zer, fd_1, zes, Nat.zero_add, encT, ldT_u, k1, k2, unA_not', Bool.not_true, Bool.not_false, wa]
    exact finish_b _ _ _ _ _ _ _ (by first | (simp only [zfn, ↓reduceIte, Nat.reduceEqDiff]; done) | (simp only [zfn, ↓reduceIte, Nat.reduceEqDiff]; rfl)) rfl
  rw [decide_eq_true g2] at k2
  cases g3 : (fewR 12 l && decide (l.length ≤ 12)) with
  | false =>
    rw [g3] at k3
    simp only [zaa, zab, zac, zad, zae, zaf, zag, zah, zai, zaj, zak, zal, zam, zan, zao, zap, zaq, zar, zas, zat, zau, zav, zaw, zax, zay, zaz, zba, zbb, zbc, zbd, zbe, zbf, zbg, zbh, zbi, zbj, zbk, zbl, zbm, zbn, zbo, zbp, zbq, Nat.reduceBEq, Bool.or_self, Bool.or_false, Bool.or_true, Bool.and_true, Bool.and_false, Bool.true_and, Bool.false_and, Option.isNone_none, Option.isNone_some, Option.isSome_some, Option.isSome_none, zbr, zbs, zbt, zbu, zbv, zbw, zbx, zby, zbz, zca, zcb, zcc, zcd, zce, zcf, zcg, zch, zci, zcj, zck, zcl, zcm, zcn, zco, zcp, zcq, zcr, zcs, zct, zcu, zcv, zcw, zcx, zcy, zcz, zda, zdb, zdc, zdd, zde, zdf, zdg, zdh, zdi, zdj, zdk, zdl, zdm, zdn, zdo, zdp, zdq, zdr, zds, Option.getD_some, Option.getD_none, zfg, zfh, zfi, zfj, zfk, zfl, zfm, zfn, Option.map_some, Option.map_none, Option.bind_some, List.map_cons, List.map_nil, List.cons_append, List.nil_append, ↓reduceIte, Nat.reduceEqDiff, Nat.reduceAdd, decide_true, decide_false, Bool.true_eq_false, Bool.false_eq_true, env0, List.getElem?_cons_zero, List.getElem?_cons_succ, zdt, zdu, zdv, zdw, zdx, zdy, zdz, zea, ia22, ld31, zeb, zec, zed, zee, zef, zeg, zeh, zei, zej, zek, zel, zem, zen, zeo, zep, fa_0, fa_1, zeq, bd_0, bd_2, zer, fd_1, zes, Nat.zero_add, encT, ldT_u, k1, k2, k3, unA_not', Bool.not_true, Bool.not_false, wa]
    exact finish_b _ _ _ _ _ _ _ (by first | (simp only [zfn, ↓reduceIte, Nat.reduceEqDiff]; done) | (simp only [zfn, ↓reduceIte, Nat.reduceEqDiff]; rfl)) rfl
  | true =>
  rw [g3] at k3
  cases g4 : (fewR 12 [a, b] && decide ([a, b].length ≤ 12)) with
  | false =>
    rw [g4] at k4
    simp only [zaa, zab, zac, zad, zae, zaf, zag, zah, zai, zaj, zak, zal, zam, zan, zao, zap, zaq, zar, zas, zat, zau, zav, zaw, zax, zay, zaz, zba, zbb, zbc, zbd, zbe, zbf, zbg, zbh, zbi, zbj, zbk, zbl, zbm, zbn, zbo, zbp, zbq, Nat.reduceBEq, Bool.or_self, Bool.or_false, Bool.or_true, Bool.and_true, Bool.and_false, Bool.true_and, Bool.false_and, Option.isNone_none, Option.isNone_some, Option.isSome_some, Option.isSome_none, zbr, zbs, zbt, zbu, zbv, zbw, zbx, zby, zbz, zca, zcb, zcc, zcd, zce, zcf, zcg, zch, zci, zcj, zck, zcl, zcm, zcn, zco, zcp, zcq, zcr, zcs, zct, zcu, zcv, zcw, zcx, zcy, zcz, zda, zdb, zdc, zdd, zde, zdf, zdg, zdh, zdi, zdj, zdk, zdl, zdm, zdn, zdo, zdp, zdq, zdr, zds, Option.getD_some, Option.getD_none, zfg, zfh, zfi, zfj, zfk, zfl, zfm, zfn, Option.map_some, Option.map_none, Option.bind_some, List.map_cons, List.map_nil, List.cons_append, List.nil_append, ↓reduceIte, Nat.reduceEqDiff, Nat.reduceAdd, decide_true, decide_false, Bool.true_eq_false, Bool.false_eq_true, env0, List.getElem?_cons_zero, List.getElem?_cons_succ, zdt, zdu, zdv, zdw, zdx, zdy, zdz, zea, ia22, ld31, zeb, zec, zed, zee, zef, zeg, zeh, zei, zej, zek, zel, zem, zen, zeo, zep, fa_0, fa_1, zeq, bd_0, bd_2, zer, fd_1, zes, Nat.zero_add, encT, ldT_u, k1, k2, k3, opA_duo26, duo26_T, k4, unA_not', Bool.not_true, Bool.not_false, wa]
    exact finish_b _ _ _ _ _ _ _ (by first | (simp only [zfn, ↓reduceIte, Nat.reduceEqDiff]; done) | (simp only [zfn, ↓reduceIte, Nat.reduceEqDiff]; rfl)) rfl
  | true =>
  rw [g4] at k4
  rw [Bool.and_eq_true, decide_eq_true_eq] at g3 g4
  have w1 := rwT_good R a 1 0 ha (by decide) g1
  have w2 := rwT_good R b 1 0 hb (by decide) g2
  have ga := w1.1
  have gb := w2.1
  have la := fewR_all 12 l g3.1 g3.2
  have lab := fewR_all 12 [a, b] g4.1 g4.2
  have la1 := lgT_ok a 100 (lab a (by simp))
  have lb1 := lgT_ok b 100 (lab b (by simp))
  have lab1 := lab a (by simp)
  have lab2 := lab b (by simp)
  have na : nodT a ≤ 200 := by omega
  have nb : nodT b ≤ 200 := by omega
  have hlt : ∀ t ∈ l, fewT 100000 t ∧ nodT t ≤ 200 := by
    intro t ht
    have h1 := la t ht
    have h2 := lgT_ok t 100 h1
    have h3 : nodT t ≤ 200 := by omega
    exact ⟨fewT_le (by decide) t (few_node 200 t h2.1 h3 (by decide)), h3⟩
  obtain ⟨f1, f2, f3⟩ := mm_facts a b ga gb (by omega) (by omega)
  have gm {p q : T} (P : T → Prop) (h : p = a ∨ p = b) (pa : P a) (pb : P b) : P p := by rcases h with rfl | rfl <;> assumption
  have hx := max_or a b
  have hy := min_or a b
  have hz : maxT b a = a ∨ maxT b a = b := (max_or b a).symm
  have gx : goodT (maxT a b) := by rcases hx with e | e <;> rw [e] <;> assumption
  have gy : goodT (minT a b) := by rcases hy with e | e <;> rw [e] <;> assumption
  have gz : goodT (maxT b a) := by rcases hz with e | e <;> rw [e] <;> assumption
  have nx : nodT (maxT a b) ≤ 200 := by rcases hx with e | e <;> rw [e] <;> assumption
  have ny : nodT (minT a b) ≤ 200 := by rcases hy with e | e <;> rw [e] <;> assumption
  have nz : nodT (maxT b a) ≤ 200 := by rcases hz with e | e <;> rw [e] <;> assumption
  have nd (u : T) (hu : nodT u ≤ 200) := evalFn_mono (show 1000000 ≤ R from hR) 6198 6198 (Nat.le_refl _) _ _ _ (tNodes_eq 1000000 (Nat.le_refl _) 6198 u (by have := ht_nod u; omega) (by omega))
  have n1 := call2_eq R 6198 sMax a b (maxT a b) (evalFn_mono (show 100000 ≤ R by omega) 20 6198 (by decide) _ _ _ hasMax) (evalFn_mono (show 100000 ≤ R by omega) 20 6198 (by decide) _ _ _ contMax)
    (answer2_eq R 6197 sMax a b _ true (twoMax_eq R 6196 (by omega) (by decide) a b ga gb (by omega))) (nd _ nx) (by omega)
  have n2 := call2_eq R 6198 sMin a b (minT a b) (evalFn_mono (show 100000 ≤ R by omega) 20 6198 (by decide) _ _ _ hasMin) (evalFn_mono (show 100000 ≤ R by omega) 20 6198 (by decide) _ _ _ contMin)
    (answer2_eq R 6197 sMin a b _ true (twoMin_eq R 6196 (by omega) (by decide) a b ga gb (by omega))) (nd _ ny) (by omega)
  have n3 := call2_eq R 6198 sMax b a (maxT b a) (evalFn_mono (show 100000 ≤ R by omega) 20 6198 (by decide) _ _ _ hasMax) (evalFn_mono (show 100000 ≤ R by omega) 20 6198 (by decide) _ _ _ contMax)
    (answer2_eq R 6197 sMax b a _ true (twoMax_eq R 6196 (by omega) (by decide) b a gb ga (by omega))) (nd _ nz) (by omega)
  have c1 := fun D st => callA_trees (cfg := cfg0) (d := D) (s := st) (f := 8) (vs := [.str sErl, .str sMax, .sl (cellsK [a, b]) 2 .tight]) rfl n1
  have c2 := fun D st => callA_trees (cfg := cfg0) (d := D) (s := st) (f := 8) (vs := [.str sErl, .str sMin, .sl (cellsK [a, b]) 2 .tight]) rfl n2
  have c3 := fun D st => callA_trees (cfg := cfg0) (d := D) (s := st) (f := 8) (vs := [.str sErl, .str sMax, .sl (cellsK [b, a]) 2 .tight]) rfl n3
  simp only [encT, sErl, sMax] at c1 c3
  simp only [encT, sErl, sMin] at c2
  have hc : codeBO = .seq (seqL codeBO) (.seq (seqL bo1) (.seq (seqL bo2) (.seq (seqL bo3) (.seq (seqL bo4) bo5)))) := rfl
  show den _ _ _ _ codeBO _ _ _ = _
  rw [hc]
  simp only [seqL, bo4, bo3, bo2, bo1, codeBO, seqR, Tryz.f4, Option.getD_some, zaa, zab, zac, zad, zae, zaf, zag, zah, zai, zaj, zak, zal, zam, zan, zao, zap, zaq, zar, zas, zat, zau, zav, zaw, zax, zay, zaz, zba, zbb, zbc, zbd, zbe, zbf, zbg, zbh, zbi, zbj, zbk, zbl, zbm, zbn, zbo, zbp, zbq, Nat.reduceBEq, Bool.or_self, Bool.or_false, Bool.or_true, Bool.and_true, Bool.and_false, Bool.true_and, Bool.false_and, Option.isNone_none, Option.isNone_some, Option.isSome_some, Option.isSome_none, zbr, zbs, zbt, zbu, zbv, zbw, zbx, zby, zbz, zca, zcb, zcc, zcd, zce, zcf, zcg, zch, zci, zcj, zck, zcl, zcm, zcn, zco, zcp, zcq, zcr, zcs, zct, zcu, zcv, zcw, zcx, zcy, zcz, zda, zdb, zdc, zdd, zde, zdf, zdg, zdh, zdi, zdj, zdk, zdl, zdm, zdn, zdo, zdp, zdq, zdr, zds, Option.getD_some, Option.getD_none, zfg, zfh, zfi, zfj, zfk, zfl, zfm, zfn, Option.map_some, Option.map_none, Option.bind_some, List.map_cons, List.map_nil, List.cons_append, List.nil_append, ↓reduceIte, Nat.reduceEqDiff, Nat.reduceAdd, decide_true, decide_false, Bool.true_eq_false, Bool.false_eq_true, env0, List.getElem?_cons_zero, List.getElem?_cons_succ, zdt, zdu, zdv, zdw, zdx, zdy, zdz, zea, ia22, ld31, zeb, zec, zed, zee, zef, zeg, zeh, zei, zej, zek, zel, zem, zen, zeo, zep, fa_0, fa_1, zeq, bd_0, bd_2, zer, fd_1, zes, Nat.zero_add, zet, List.toList_toArray, len9, ix9, zeu, zev, zew, zex, zey, zeroT, zeroE, encT, ldT_u, k1, k2, k3, opA_duo26, duo26_T, k4, unA_not', Bool.not_true, c1, c2, c3, zds, st_Tt, stT_6, st_E, stE_z]
  exact bo5_eq R hR a b l n ga na nb _ _ _ gx gy gz nx ny nz f1 f2 f3 g3.2 hlt _ _ (by first | (simp only [zfn, ↓reduceIte, Nat.reduceEqDiff, env0, List.getElem?_cons_zero, List.getElem?_cons_succ]; done) | (simp only [zfn, ↓reduceIte, Nat.reduceEqDiff, env0, List.getElem?_cons_zero, List.getElem?_cons_succ]; rfl)) (by first | (simp only [zfn, ↓reduceIte, Nat.reduceEqDiff, env0, List.getElem?_cons_zero, List.getElem?_cons_succ]; done) | (simp only [zfn, ↓reduceIte, Nat.reduceEqDiff, env0, List.getElem?_cons_zero, List.getElem?_cons_succ]; rfl)) (by first | (simp only [zfn, ↓reduceIte, Nat.reduceEqDiff]; done) | (simp only [zfn, ↓reduceIte, Nat.reduceEqDiff]; rfl)) (by first | (simp only [zfn, ↓reduceIte, Nat.reduceEqDiff]; done) | (simp only [zfn, ↓reduceIte, Nat.reduceEqDiff]; rfl)) (by first | (simp only [zfn, ↓reduceIte, Nat.reduceEqDiff]; done) | (simp only [zfn, ↓reduceIte, Nat.reduceEqDiff]; rfl)) (by first | (simp only [zfn, ↓reduceIte, Nat.reduceEqDiff]; done) | (simp only [zfn, ↓reduceIte, Nat.reduceEqDiff]; rfl)) (by first | (simp only [zfn, ↓reduceIte, Nat.reduceEqDiff]; done) | (simp only [zfn, ↓reduceIte, Nat.reduceEqDiff]; rfl)) (by first | (simp only [zfn, ↓reduceIte, Nat.reduceEqDiff]; done) | (simp only [zfn, ↓reduceIte, Nat.reduceEqDiff]; rfl)) (by first | (simp only [zfn, ↓reduceIte, Nat.reduceEqDiff]; done) | (simp only [zfn, ↓reduceIte, Nat.reduceEqDiff]; rfl)) (by first | (simp only [zfn, ↓reduceIte, Nat.reduceEqDiff]; done) | (simp only [zfn, ↓reduceIte, Nat.reduceEqDiff]; rfl)) (by first | (simp only [zfn, ↓reduceIte, Nat.reduceEqDiff]; done) | (simp only [zfn, ↓reduceIte, Nat.reduceEqDiff]; rfl)) (by first | (simp only [zfn, ↓reduceIte, Nat.reduceEqDiff]; done) | (simp only [zfn, ↓reduceIte, Nat.reduceEqDiff]; rfl)) (by first | (simp only [zfn, ↓reduceIte, Nat.reduceEqDiff]; done) | (simp only [zfn, ↓reduceIte, Nat.reduceEqDiff]; rfl)) (by first | (simp only [zfn, ↓reduceIte, Nat.reduceEqDiff]; done) | (simp only [zfn, ↓reduceIte, Nat.reduceEqDiff]; rfl)) (by first | (simp only [zfn, ↓reduceIte, Nat.reduceEqDiff]; done) | (simp only [zfn, ↓reduceIte, Nat.reduceEqDiff]; rfl)) (by first | (simp only [zfn, ↓reduceIte, Nat.reduceEqDiff, zej]; done) | (simp only [zfn, ↓reduceIte, Nat.reduceEqDiff, zej]; rfl)) (by first | (simp only [zfn, ↓reduceIte, Nat.reduceEqDiff, zej]; done) | (simp only [zfn, ↓reduceIte, Nat.reduceEqDiff, zej]; rfl))
end Go.Ab

/- The walk of BifOrders: it gives true, and leaves memory below as it was. No conditions. -/
namespace Go.Ab
open Go.Proofs Go.RowKit
theorem st0_4b (a b c d : AV) : st0 [.tree a, .tree b, .tree c, .tree d] = dead := by
  funext p
  match p with
  | 0 => rfl
  | 1 => rfl
  | 2 => rfl
  | 3 => rfl
  | p + 4 => rfl
theorem walkBOrders (v0 v1 : Value) (a2 : Option Addr) (len2 cap2 : Nat) (n : Int) (w : World) (h0 : IsTerm w v0) (h1 : IsTerm w v1) (h2 : IsTerms w a2 len2 cap2) (_h3 : (Lit.int .i64 n).wf = true) :
    Calls Tryz.prog 4 #[v0, v1, .slice a2 len2 cap2, .int .i64 n] w fun e w' => e = .returned (.bool true) ∧ Below w.heap.size w w' := by
  obtain ⟨a, a1, a2', a3⟩ := h0
  obtain ⟨b, b1, b2, b3⟩ := h1
  obtain ⟨ks, rfl, hb, hf, hv⟩ := h2
  refine lawCalls mixed (vs := [v0, v1, .slice a2 ks.length cap2, .int .i64 n]) (orders_B R0 (by unfold R0; decide) (by unfold R0; decide) a b ks n a1 b1 hb a2' b2 hf) rfl (st0_4b _ _ _ _) (fun j v hj => ?_) true rfl
  match j, hj with
  | 0, hj => cases hj; exact ⟨a3, rfl⟩
  | 1, hj => cases hj; exact ⟨b3, rfl⟩
  | 2, hj => cases hj; exact ⟨hv, rfl⟩
  | 3, hj => cases hj; exact ⟨by simp only [env0, List.getElem?_cons_succ, List.getElem?_cons_zero, V0], rfl⟩
end Go.Ab
