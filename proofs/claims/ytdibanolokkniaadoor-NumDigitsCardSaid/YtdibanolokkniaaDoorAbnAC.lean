/- Several texts put together: AbnA12, AbnA13, AbnA14, AbnA15. Conditions: as each part says. -/
import Derived.Test.YtdibanolokkniaaDoorAbnA7a
import Derived.Test.YtdibanolokkniaaDoorAbMM
/- And, or, exclusive or of limbs; a number's bits. Conditions: numbers that are shown. -/
namespace Go.Ab
open Go.Proofs
set_option maxRecDepth 100000
set_option linter.unusedSimpArgs false

theorem s_and (P : Program) (t : TypeId) (a b : Nat) (h : a < 4294967296) (h' : b < 4294967296) : binA P .and t (.int .u32 (a : Int)) (.int .u32 (b : Int)) = some (.int .u32 (((a &&& b) : Nat) : Int)) := by
  have h1 : (BitVec.ofInt 32 (a : Int) &&& BitVec.ofInt 32 (b : Int)).toNat = a &&& b := by
    rw [BitVec.toNat_and, BitVec.ofInt_natCast, BitVec.ofInt_natCast, BitVec.toNat_ofNat, BitVec.toNat_ofNat, Nat.mod_eq_of_lt h, Nat.mod_eq_of_lt h']
  have h2 : a &&& b ≤ a := Nat.and_le_left
  show some (AV.int .u32 (IntKind.u32.wrap ((BitVec.ofInt 32 (a : Int) &&& BitVec.ofInt 32 (b : Int)).toNat : Int))) = _
  rw [h1]
  simp only [IntKind.wrap, IntKind.bits, IntKind.signed]
  congr 2
  generalize a &&& b = c at *
  simp; omega
theorem s_xor (P : Program) (t : TypeId) (a b : Nat) (h : a < 4294967296) (h' : b < 4294967296) : binA P .xor t (.int .u32 (a : Int)) (.int .u32 (b : Int)) = some (.int .u32 (((a ^^^ b) : Nat) : Int)) := by
  have h1 : (BitVec.ofInt 32 (a : Int) ^^^ BitVec.ofInt 32 (b : Int)).toNat = a ^^^ b := by
    rw [BitVec.toNat_xor, BitVec.ofInt_natCast, BitVec.ofInt_natCast, BitVec.toNat_ofNat, BitVec.toNat_ofNat, Nat.mod_eq_of_lt h, Nat.mod_eq_of_lt h']
  have h2 : (a ^^^ b) < 2 ^ 32 := Nat.xor_lt_two_pow h h'
  show some (AV.int .u32 (IntKind.u32.wrap ((BitVec.ofInt 32 (a : Int) ^^^ BitVec.ofInt 32 (b : Int)).toNat : Int))) = _
  rw [h1]
  simp only [IntKind.wrap, IntKind.bits, IntKind.signed]
  congr 2
  generalize a ^^^ b = c at *
  simp; omega
theorem s_not (a : Nat) (h : a < 4294967296) : unA .xor (.int .u32 (a : Int)) = some (.int .u32 ((4294967295 - a : Nat) : Int)) := by
  have h1 : (BitVec.ofInt 32 4294967295 ^^^ BitVec.ofInt 32 (a : Int)).toNat = 4294967295 - a := by
    have e : BitVec.ofInt 32 4294967295 = BitVec.allOnes 32 := by decide
    rw [e, BitVec.allOnes_xor, BitVec.toNat_not, BitVec.ofInt_natCast, BitVec.toNat_ofNat, Nat.mod_eq_of_lt h]
  show some (AV.int .u32 (IntKind.u32.wrap ((BitVec.ofInt 32 4294967295 ^^^ BitVec.ofInt 32 (a : Int)).toNat : Int))) = _
  rw [h1]
  simp only [IntKind.wrap, IntKind.bits, IntKind.signed]
  congr 2
  simp; omega
theorem finish_u (k : Bool) (xs : List Arg) (t : Nat) (env : Env) (s : St) (z : Int) (os : List (List AV)) (hv : env t = .int .u32 z) (ho : outsA s 0 xs = some os) : finishP Tryd.prog k xs #[.tmp t] env s = some (.tree (.int .u32 z), os) :=
  finish_tree _ _ _ _ _ _ (.int .u32 z) _ _ hv rfl ho
theorem word_eq (n d op a b : Nat) (ha : a < 4294967296) (hb : b < 4294967296) : evalFn Tryd.prog cfg0 n (d+1) 67 [.tree (.int .i64 (op : Int)), .tree (.int .u32 (a : Int)), .tree (.int .u32 (b : Int))] = some (.tree (.int .u32 ((wordN op a b : Nat) : Int)), [[], [], []]) := by
  rw [evalFn_go _ Tryd.func67 (by unfold Tryd.f67; rfl) (by unfold Tryd.f67; decide) (Nat.le_of_ble_eq_true (by unfold Tryd.f67; rfl)) (by kernel_rfl)]
  have e1 := s_and Tryd.prog 48 a b ha hb
  have e2 := s_or Tryd.prog 48 a b ha hb
  have e3 := s_xor Tryd.prog 48 a b ha hb
  unfold wordN
  by_cases h6 : op = 6
  · have p : ((op : Int) == 6) = true := by rw [h6]; rfl
    rw [if_pos h6]
    simp only [zaa, zab, zac, zad, zae, zaf, zag, zah, zai, zaj, zak, zal, zam, zan, zao, zap, zaq, zar, zas, zat, zau, zav, zaw, zax, zay, zaz, zba, zbb, zbc, zbd, zbe, zbf, zbg, zbh, zbi, zbj, Nat.reduceBEq, Bool.or_self, Bool.or_false, Bool.or_true, Bool.and_true, Bool.and_false, Bool.true_and, Bool.false_and, Option.isNone_none, Option.isNone_some, Option.isSome_some, Option.isSome_none, zbk, zbl, zbm, zbn, zbo, zbp, zbq, zbr, zbs, zbt, zbu, zbv, zbw, zbx, zby, zbz, zca, zcb, zcc, zcd, zce, zcf, zcg, zch, zci, zcj, zck, zcl, zcm, zcn, zco, zcp, zcq, zcr, zcs, zct, zcu, zcv, zcw, zcx, zcy, zcz, zda, zdb, zdc, zdd, zde, zdf, Option.getD_some, Option.getD_none, zet, zeu, zev, zew, zex, zey, zez, zfa, Option.map_some, Option.map_none, Option.bind_some, List.map_cons, List.map_nil, List.cons_append, List.nil_append, ↓reduceIte, Nat.reduceEqDiff, Nat.reduceAdd, decide_true, decide_false, Bool.true_eq_false, Bool.false_eq_true, env0, List.getElem?_cons_zero, List.getElem?_cons_succ, zdg, zdh, zdi, zdj, zdk, zdl, zdm, zdn, ia22, ld31, zdo, zdp, p, e1]
    exact finish_u _ _ _ _ _ _ _ (by simp only [zfa, ↓reduceIte]) rfl
  · have p : ((op : Int) == 6) = false := by rw [beq_eq_false_iff_ne]; omega
    rw [if_neg h6]
    by_cases h7 : op = 7
    · have p2 : ((op : Int) == 7) = true := by rw [h7]; rfl
      rw [if_pos h7]
      simp only [zaa, zab, zac, zad, zae, zaf, zag, zah, zai, zaj, zak, zal, zam, zan, zao, zap, zaq, zar, zas, zat, zau, zav, zaw, zax, zay, zaz, zba, zbb, zbc, zbd, zbe, zbf, zbg, zbh, zbi, zbj, Nat.reduceBEq, Bool.or_self, Bool.or_false, Bool.or_true, Bool.and_true, Bool.and_false, Bool.true_and, Bool.false_and, Option.isNone_none, Option.isNone_some, Option.isSome_some, Option.isSome_none, zbk, zbl, zbm, zbn, zbo, zbp, zbq, zbr, zbs, zbt, zbu, zbv, zbw, zbx, zby, zbz, zca, zcb, zcc, zcd, zce, zcf, zcg, zch, zci, zcj, zck, zcl, zcm, zcn, zco, zcp, zcq, zcr, zcs, zct, zcu, zcv, zcw, zcx, zcy, zcz, zda, zdb, zdc, zdd, zde, zdf, Option.getD_some, Option.getD_none, zet, zeu, zev, zew, zex, zey, zez, zfa, Option.map_some, Option.map_none, Option.bind_some, List.map_cons, List.map_nil, List.cons_append, List.nil_append, ↓reduceIte, Nat.reduceEqDiff, Nat.reduceAdd, decide_true, decide_false, Bool.true_eq_false, Bool.false_eq_true, env0, List.getElem?_cons_zero, List.getElem?_cons_succ, zdg, zdh, zdi, zdj, zdk, zdl, zdm, zdn, ia22, ld31, zdo, zdp, p, p2, e2]
      exact finish_u _ _ _ _ _ _ _ (by simp only [zfa, ↓reduceIte]) rfl
    · have p2 : ((op : Int) == 7) = false := by rw [beq_eq_false_iff_ne]; omega
      rw [if_neg h7]
      simp only [zaa, zab, zac, zad, zae, zaf, zag, zah, zai, zaj, zak, zal, zam, zan, zao, zap, zaq, zar, zas, zat, zau, zav, zaw, zax, zay, zaz, zba, zbb, zbc, zbd, zbe, zbf, zbg, zbh, zbi, zbj, Nat.reduceBEq, Bool.or_self, Bool.or_false, Bool.or_true, Bool.and_true, Bool.and_false, Bool.true_and, Bool.false_and, Option.isNone_none, Option.isNone_some, Option.isSome_some, Option.isSome_none, zbk, zbl, zbm, zbn, zbo, zbp, zbq, zbr, zbs, zbt, zbu, zbv, zbw, zbx, zby, zbz, zca, zcb, zcc, zcd, zce, zcf, zcg, zch, zci, zcj, zck, zcl, zcm, zcn, zco, zcp, zcq, zcr, zcs, zct, zcu, zcv, zcw, zcx, zcy, zcz, zda, zdb, zdc, zdd, zde, zdf, Option.getD_some, Option.getD_none, zet, zeu, zev, zew, zex, zey, zez, zfa, Option.map_some, Option.map_none, Option.bind_some, List.map_cons, List.map_nil, List.cons_append, List.nil_append, ↓reduceIte, Nat.reduceEqDiff, Nat.reduceAdd, decide_true, decide_false, Bool.true_eq_false, Bool.false_eq_true, env0, List.getElem?_cons_zero, List.getElem?_cons_succ, zdg, zdh, zdi, zdj, zdk, zdl, zdm, zdn, ia22, ld31, zdo, zdp, p, p2, e3]
      exact finish_u _ _ _ _ _ _ _ (by simp only [zfa, ↓reduceIte]) rfl
theorem qWord (n d op a b : Nat) (ha : a < 4294967296) (hb : b < 4294967296) : callQ (evalFn Tryd.prog cfg0 n (d+1)) 67 [.int .i64 (op : Int), .int .u32 (a : Int), .int .u32 (b : Int)] = some (.int .u32 ((wordN op a b : Nat) : Int)) :=
  callQ_trees rfl (word_eq n d op a b ha hb)

/-! ### bits -/
theorem copy_L (s : St) (p t : Nat) (m l : List Nat) (b : Gk) (hs : s p = ⟨t, .buf (encC m)⟩) (len : Nat) (hm : m.length = len) (hl : l.length ≤ len) : copyA Tryd.prog #[22, 22] s (.own p t 0 len 1) (encL b l) =
    some (.int .i64 (l.length : Int), upd s p ⟨t, .buf (encC (l ++ m.drop l.length))⟩) := by
  have e1 : (#[22, 22] : Array TypeId)[0]? = some 22 := rfl
  have e2 : (#[22, 22] : Array TypeId)[1]? = some 22 := rfl
  subst hm
  have hmin : Nat.min l.length m.length = l.length := Nat.min_eq_left hl
  simp only [copyA, e1, e2, Option.map_some, tk22, esz31, Option.bind_some, moreA, encL, encC_len, Nat.mul_one, if_true, hs, hmin]
  rw [if_pos ⟨trivial, trivial, by omega⟩]
  simp only [encC_take, splice_enc, List.take_zero, List.nil_append, Nat.zero_add, List.take_of_length_le (Nat.le_refl l.length)]
theorem copy_own (s : St) (p t p' t' : Nat) (m l : List Nat) (hs : s p = ⟨t, .buf (encC m)⟩) (hs' : s p' = ⟨t', .buf (encC l)⟩) (len : Nat) (hm : m.length = len) (hl : l.length = len) : copyA Tryd.prog #[22, 22] s (.own p t 0 len 1) (.own p' t' 0 len 1) =
    some (.int .i64 (len : Int), upd s p ⟨t, .buf (encC l)⟩) := by
  have e1 : (#[22, 22] : Array TypeId)[0]? = some 22 := rfl
  have e2 : (#[22, 22] : Array TypeId)[1]? = some 22 := rfl
  subst hm
  have hmin : Nat.min m.length m.length = m.length := Nat.min_eq_left (Nat.le_refl _)
  simp only [copyA, e1, e2, Option.map_some, tk22, esz31, Option.bind_some, moreA, cellsAt_E, hs', cellsE_buf, encC_len, Nat.mul_one, if_true, hs, Nat.zero_add, hl, Nat.le_refl, and_self, List.drop_zero, encC_take, hmin, splice_enc, List.take_zero, List.nil_append]
  have e3 : (l.take m.length).take m.length = l := by rw [List.take_of_length_le (by rw [List.length_take]; omega), List.take_of_length_le (by omega)]
  rw [e3, hl, List.drop_of_length_le (Nat.le_refl _), List.append_nil]
theorem len_own (s : St) (p t off len : Nat) (xs : List AV) (hs : s p = ⟨t, .buf xs⟩) : lenA Tryd.prog 22 s (.own p t off len 1) = some (.int .i64 (len : Int)) := by
  simp [lenA, tk22, live, cellsAt_E, hs, cellsE_buf]
/-- The bits, as a list of limbs. -/
def tcL (z : Int) : List Nat := if z < 0 then (digs (z.natAbs - 1) ++ List.replicate (13 - (digs (z.natAbs - 1)).length) 0).map (4294967295 - ·) else digs z.natAbs ++ List.replicate (13 - (digs z.natAbs).length) 0
theorem limbs_rep (k : Nat) : Limbs (List.replicate k 0) := fun x hx => by rw [List.eq_of_mem_replicate hx]; decide
theorem pad_val (v : Nat) (k : Nat) : val (digs v ++ List.replicate k 0) = v := by rw [val_zeros, val_digs]
theorem tcL_ok (z : Int) (h : z.natAbs < B ^ 12) : Limbs (tcL z) ∧ (tcL z).length = 13 ∧ val (tcL z) = tcZ z := by
  have hd := digs_len z.natAbs 12 h
  have hd1 := digs_len (z.natAbs - 1) 12 (by omega)
  unfold tcL tcZ
  by_cases hz : z < 0
  · rw [if_pos hz, if_pos hz]
    have hL : Limbs (digs (z.natAbs - 1) ++ List.replicate (13 - (digs (z.natAbs - 1)).length) 0) := (limbs_digs _).app (limbs_rep _)
    have hl : (digs (z.natAbs - 1) ++ List.replicate (13 - (digs (z.natAbs - 1)).length) 0).length = 13 := by
      rw [List.length_append, List.length_replicate]; omega
    refine ⟨limbs_not _, by rw [List.length_map, hl], ?_⟩
    have hv := val_not _ hL
    rw [hl, pad_val] at hv
    omega
  · rw [if_neg hz, if_neg hz]
    exact ⟨(limbs_digs _).app (limbs_rep _), by rw [List.length_append, List.length_replicate]; omega, pad_val _ _⟩
theorem finish_own (xs : List Arg) (t p e len : Nat) (l : List Nat) (env : Env) (s : St) (os : List (List AV)) (hv : env t = .own p e 0 len 1) (hs : s p = ⟨e, .buf (encC l)⟩) (hp : xs.length ≤ p) (hl : l.length = len) (ho : outsA s 0 xs = some os) :
    finishP Tryd.prog true xs #[.tmp t] env s = some (.own (encC l) len 1, os) := by
  have hc : len * 1 ≤ (encC l).length := by rw [encC_len]; omega
  simp only [finishP_t1, finish, hv, finish1, if_true, hs, hp, hc, and_self, Option.bind_some, ho, Option.map_some]
/-- Every limb turned, from a place on. -/
def notI (m : List Nat) (i : Nat) : List Nat := (m.take i).map (4294967295 - ·) ++ m.drop i
theorem notI_len (m : List Nat) (i : Nat) : (notI m i).length = m.length := by
  simp only [notI, List.length_append, List.length_map, List.length_take, List.length_drop]; omega
theorem notI_get (m : List Nat) (i : Nat) (h : i < m.length) : (notI m i).getD i 0 = m.getD i 0 := by
  have hl : ((m.take i).map (4294967295 - ·)).length = i := by rw [List.length_map, List.length_take]; omega
  rw [notI, List.getD_eq_getElem?_getD, List.getD_eq_getElem?_getD, List.getElem?_append_right (by omega), hl, Nat.sub_self, List.getElem?_drop, Nat.add_zero]
theorem notI_set (m : List Nat) (i : Nat) (h : i < m.length) : (notI m i).set i (4294967295 - m.getD i 0) = notI m (i + 1) := by
  have hl : ((m.take i).map (4294967295 - ·)).length = i := by rw [List.length_map, List.length_take]; omega
  rw [notI, List.set_append_right _ _ (by omega), hl, Nat.sub_self]
  have hd : m.drop i = m.getD i 0 :: m.drop (i + 1) := by
    rw [List.drop_eq_getElem_cons h]
    simp [List.getD_eq_getElem?_getD, h]
  rw [hd, List.set_cons_zero, notI, List.take_succ_eq_append_getElem h, List.map_append, List.append_assoc]
  simp [List.getD_eq_getElem?_getD, h]
theorem notI_0 (m : List Nat) : notI m 0 = m := by simp [notI]
theorem notI_all (m : List Nat) : notI m m.length = m.map (4294967295 - ·) := by simp [notI]
theorem notI_limbs (m : List Nat) (hm : Limbs m) (i : Nat) : Limbs (notI m i) := (limbs_not _).app (hm.drop i)
end Go.Ab

/- A number's bits. Conditions: numbers that are shown. -/
namespace Go.Ab
open Go.Proofs
set_option maxRecDepth 100000
set_option linter.unusedSimpArgs false

/-- What a loop that turns all limbs of a list of its own does. -/
theorem rep13 : (List.replicate 13 0 : List Nat).length = 13 := rfl
set_option maxHeartbeats 8000000 in
theorem nbits_eq (n d : Nat) (hn : 100000 ≤ n) (g : Gk) (z : Int) (h : z.natAbs < B ^ 12) : evalFn Tryd.prog cfg0 n (d+5) 66 [.tree (canA g z)] = some (.own (encC (tcL z)) 13 1, [[]]) := by
  rw [evalFn_go _ Tryd.func66 (by unfold Tryd.f66; rfl) (by unfold Tryd.f66; decide) (Nat.le_of_ble_eq_true (by unfold Tryd.f66; rfl)) (by kernel_rfl)]
  have hd := digs_len z.natAbs 12 h
  have hd1 := digs_len (z.natAbs - 1) 12 (by omega)
  have mk := fun s => make22 5 s 13 (by decide) (by decide)
  rw [show (13 : Int).toNat = 13 from rfl] at mk
  simp only [zaa, zab, zac, zad, zae, zaf, zag, zah, zai, zaj, zak, zal, zam, zan, zao, zap, zaq, zar, zas, zat, zau, zav, zaw, zax, zay, zaz, zba, zbb, zbc, zbd, zbe, zbf, zbg, zbh, zbi, zbj, Nat.reduceBEq, Bool.or_self, Bool.or_false, Bool.or_true, Bool.and_true, Bool.and_false, Bool.true_and, Bool.false_and, Option.isNone_none, Option.isNone_some, Option.isSome_some, Option.isSome_none, zbk, zbl, zbm, zbn, zbo, zbp, zbq, zbr, zbs, zbt, zbu, zbv, zbw, zbx, zby, zbz, zca, zcb, zcc, zcd, zce, zcf, zcg, zch, zci, zcj, zck, zcl, zcm, zcn, zco, zcp, zcq, zcr, zcs, zct, zcu, zcv, zcw, zcx, zcy, zcz, zda, zdb, zdc, zdd, zde, zdf, Option.getD_some, Option.getD_none, zet, zeu, zev, zew, zex, zey, zez, zfa, Option.map_some, Option.map_none, Option.bind_some, List.map_cons, List.map_nil, List.cons_append, List.nil_append, ↓reduceIte, Nat.reduceEqDiff, Nat.reduceAdd, decide_true, decide_false, Bool.true_eq_false, Bool.false_eq_true, env0, List.getElem?_cons_zero, List.getElem?_cons_succ, zdg, zdh, zdi, zdj, zdk, zdl, zdm, zdn, ia22, ld31, zdo, zdp, zdq, zdr, zds, zdt, zdu, zdv, zdw, zdx, zdy, zdz, zea, zeb, zec, fa_0, fa_1, zed, bd_0, bd_2, zee, fd_1, zef, Nat.zero_add, st0_1, mk]
  refine forgetS (fun s => copyA Tryd.prog #[22, 22] s (.own 5 1 0 13 1) (encL g (digs z.natAbs))) (fun env s => env 1 = .ptr 1 1 0 ∧ env 3 = .own 5 1 0 13 1 ∧ s 1 = ⟨1, .buf [.bool (decide (z < 0)), encL g (digs z.natAbs)]⟩ ∧ s 5 = ⟨1, .buf (encC (List.replicate 13 0))⟩ ∧ (s 15).t = 0 ∧ outsA s 0 [.tree (canA g z)] = some [[]]) ⟨by simp only [zfa, ↓reduceIte, Nat.reduceEqDiff], by simp only [zfa, ↓reduceIte, Nat.reduceEqDiff], by simp only [zfa, ↓reduceIte, Nat.reduceEqDiff], by simp only [zfa, ↓reduceIte, Nat.reduceEqDiff], by simp only [zfa, ↓reduceIte, Nat.reduceEqDiff, zdw], rfl⟩ ?_
  intro env s ⟨e1, e3, j1, j5, j15, ho⟩
  have cp := copy_L s 5 1 (List.replicate 13 0) (digs z.natAbs) g j5 13 rfl (by omega)
  rw [cp, show (List.replicate 13 0).drop (digs z.natAbs).length = List.replicate (13 - (digs z.natAbs).length) 0 by rw [List.drop_replicate]]
  by_cases hz : z < 0
  · rw [show tcL z = (digs (z.natAbs - 1) ++ List.replicate (13 - (digs (z.natAbs - 1)).length) 0).map (4294967295 - ·) by rw [tcL, if_pos hz]]
    generalize hm0 : digs z.natAbs ++ List.replicate (13 - (digs z.natAbs).length) 0 = m0
    have hm0l : m0.length = 13 := by rw [← hm0, List.length_append, List.length_replicate]; omega
    have j5' : (upd s 5 ⟨1, .buf (encC m0)⟩) 5 = ⟨1, .buf (encC m0)⟩ := upd_self _ _ _
    have ln := fun s' hs' => len_own s' 5 1 0 13 (encC m0) hs'
    have ln1 := ln _ j5'
    rw [show ((13 : Nat) : Int) = 13 from rfl] at ln1
    have mk2 := fun s => make22 15 s 13 (by decide) (by decide)
    rw [show (13 : Int).toNat = 13 from rfl] at mk2
    simp only [zaa, zab, zac, zad, zae, zaf, zag, zah, zai, zaj, zak, zal, zam, zan, zao, zap, zaq, zar, zas, zat, zau, zav, zaw, zax, zay, zaz, zba, zbb, zbc, zbd, zbe, zbf, zbg, zbh, zbi, zbj, Nat.reduceBEq, Bool.or_self, Bool.or_false, Bool.or_true, Bool.and_true, Bool.and_false, Bool.true_and, Bool.false_and, Option.isNone_none, Option.isNone_some, Option.isSome_some, Option.isSome_none, zbk, zbl, zbm, zbn, zbo, zbp, zbq, zbr, zbs, zbt, zbu, zbv, zbw, zbx, zby, zbz, zca, zcb, zcc, zcd, zce, zcf, zcg, zch, zci, zcj, zck, zcl, zcm, zcn, zco, zcp, zcq, zcr, zcs, zct, zcu, zcv, zcw, zcx, zcy, zcz, zda, zdb, zdc, zdd, zde, zdf, Option.getD_some, Option.getD_none, zet, zeu, zev, zew, zex, zey, zez, zfa, Option.map_some, Option.map_none, Option.bind_some, List.map_cons, List.map_nil, List.cons_append, List.nil_append, ↓reduceIte, Nat.reduceEqDiff, Nat.reduceAdd, decide_true, decide_false, Bool.true_eq_false, Bool.false_eq_true, env0, List.getElem?_cons_zero, List.getElem?_cons_succ, zdg, zdh, zdi, zdj, zdk, zdl, zdm, zdn, ia22, ld31, zdo, zdp, zdq, zdr, zds, zdt, zdu, zdv, zdw, zdx, zdy, zdz, zea, zeb, zec, fa_0, fa_1, zed, bd_0, bd_2, zee, fd_1, zef, Nat.zero_add, e1, e3, j1, j15, hz, ln1, mk2]
    refine forgetS (fun s => copyA Tryd.prog #[22, 22] s (.own 5 1 0 13 1) (.own 15 1 0 13 1)) (fun env s => env 1 = .ptr 1 1 0 ∧ env 3 = .own 5 1 0 13 1 ∧ s 1 = ⟨1, .buf [.bool true, encL g (digs z.natAbs)]⟩ ∧ s 5 = ⟨1, .buf (encC m0)⟩ ∧ s 15 = ⟨1, .buf (encC (List.replicate 13 0))⟩) ⟨by simp only [zfa, ↓reduceIte, Nat.reduceEqDiff, e1], by simp only [zfa, ↓reduceIte, Nat.reduceEqDiff, e3], by simp only [zfa, ↓reduceIte, Nat.reduceEqDiff, j1, hz, decide_true], by simp only [zfa, ↓reduceIte, Nat.reduceEqDiff], by simp only [zfa, ↓reduceIte, Nat.reduceEqDiff]⟩ ?_
    clear e1 e3 j1 j5 j15 ho cp j5' ln1
    intro env s ⟨e1, e3, j1, j5, j15⟩
    rw [copy_own s 5 1 15 1 m0 (List.replicate 13 0) j5 j15 13 hm0l rfl]
    have c4 := fun D s => cSubOne n d hn D s g z h
    simp only [zaa, zab, zac, zad, zae, zaf, zag, zah, zai, zaj, zak, zal, zam, zan, zao, zap, zaq, zar, zas, zat, zau, zav, zaw, zax, zay, zaz, zba, zbb, zbc, zbd, zbe, zbf, zbg, zbh, zbi, zbj, Nat.reduceBEq, Bool.or_self, Bool.or_false, Bool.or_true, Bool.and_true, Bool.and_false, Bool.true_and, Bool.false_and, Option.isNone_none, Option.isNone_some, Option.isSome_some, Option.isSome_none, zbk, zbl, zbm, zbn, zbo, zbp, zbq, zbr, zbs, zbt, zbu, zbv, zbw, zbx, zby, zbz, zca, zcb, zcc, zcd, zce, zcf, zcg, zch, zci, zcj, zck, zcl, zcm, zcn, zco, zcp, zcq, zcr, zcs, zct, zcu, zcv, zcw, zcx, zcy, zcz, zda, zdb, zdc, zdd, zde, zdf, Option.getD_some, Option.getD_none, zet, zeu, zev, zew, zex, zey, zez, zfa, Option.map_some, Option.map_none, Option.bind_some, List.map_cons, List.map_nil, List.cons_append, List.nil_append, ↓reduceIte, Nat.reduceEqDiff, Nat.reduceAdd, decide_true, decide_false, Bool.true_eq_false, Bool.false_eq_true, env0, List.getElem?_cons_zero, List.getElem?_cons_succ, zdg, zdh, zdi, zdj, zdk, zdl, zdm, zdn, ia22, ld31, zdo, zdp, zdq, zdr, zds, zdt, zdu, zdv, zdw, zdx, zdy, zdz, zea, zeb, zec, fa_0, fa_1, zed, bd_0, bd_2, zee, fd_1, zef, Nat.zero_add, e1, e3, j1, opA_one, one22_int, c4]
    refine forgetS (fun s => copyA Tryd.prog #[22, 22] s (.own 5 1 0 13 1) (encR (z.natAbs - 1))) (fun env s => env 3 = .own 5 1 0 13 1 ∧ s 5 = ⟨1, .buf (encC (List.replicate 13 0))⟩) ⟨by simp only [zfa, ↓reduceIte, Nat.reduceEqDiff, e3], by simp only [zfa, ↓reduceIte, Nat.reduceEqDiff]⟩ ?_
    clear e1 e3 j1 j5 j15
    intro env s ⟨e3, j5⟩
    have cp := copy_L s 5 1 (List.replicate 13 0) (digs (z.natAbs - 1)) (if z.natAbs - 1 = 0 then .n else .l) j5 13 rfl (by omega)
    rw [show encL (if z.natAbs - 1 = 0 then .n else .l) (digs (z.natAbs - 1)) = encR (z.natAbs - 1) from rfl, show (List.replicate 13 0).drop (digs (z.natAbs - 1)).length = List.replicate (13 - (digs (z.natAbs - 1)).length) 0 by rw [List.drop_replicate]] at cp
    rw [cp]
    generalize hm : digs (z.natAbs - 1) ++ List.replicate (13 - (digs (z.natAbs - 1)).length) 0 = m
    have hml : m.length = 13 := by rw [← hm, List.length_append, List.length_replicate]; omega
    have hmL : Limbs m := by rw [← hm]; exact (limbs_digs _).app (limbs_rep _)
    have j5' : (upd s 5 ⟨1, .buf (encC m)⟩) 5 = ⟨1, .buf (encC m)⟩ := upd_self _ _ _
    have ln1 := len_own _ 5 1 0 13 (encC m) j5'
    rw [show ((13 : Nat) : Int) = 13 from rfl] at ln1
    simp only [zaa, zab, zac, zad, zae, zaf, zag, zah, zai, zaj, zak, zal, zam, zan, zao, zap, zaq, zar, zas, zat, zau, zav, zaw, zax, zay, zaz, zba, zbb, zbc, zbd, zbe, zbf, zbg, zbh, zbi, zbj, Nat.reduceBEq, Bool.or_self, Bool.or_false, Bool.or_true, Bool.and_true, Bool.and_false, Bool.true_and, Bool.false_and, Option.isNone_none, Option.isNone_some, Option.isSome_some, Option.isSome_none, zbk, zbl, zbm, zbn, zbo, zbp, zbq, zbr, zbs, zbt, zbu, zbv, zbw, zbx, zby, zbz, zca, zcb, zcc, zcd, zce, zcf, zcg, zch, zci, zcj, zck, zcl, zcm, zcn, zco, zcp, zcq, zcr, zcs, zct, zcu, zcv, zcw, zcx, zcy, zcz, zda, zdb, zdc, zdd, zde, zdf, Option.getD_some, Option.getD_none, zet, zeu, zev, zew, zex, zey, zez, zfa, Option.map_some, Option.map_none, Option.bind_some, List.map_cons, List.map_nil, List.cons_append, List.nil_append, ↓reduceIte, Nat.reduceEqDiff, Nat.reduceAdd, decide_true, decide_false, Bool.true_eq_false, Bool.false_eq_true, env0, List.getElem?_cons_zero, List.getElem?_cons_succ, zdg, zdh, zdi, zdj, zdk, zdl, zdm, zdn, ia22, ld31, zdo, zdp, zdq, zdr, zds, zdt, zdu, zdv, zdw, zdx, zdy, zdz, zea, zeb, zec, fa_0, fa_1, zed, bd_0, bd_2, zee, fd_1, zef, Nat.zero_add, e3, ln1, den_loop]
    refine loop_ends (X := Nat) (fun i env s => env 3 = .own 5 1 0 13 1 ∧ env 24 = .int .i64 13 ∧ env 25 = .int .i64 (i : Int) ∧ s 5 = ⟨1, .buf (encC (notI m i))⟩ ∧ i ≤ 13) (fun i => 13 - i) (fun _ => (.own (encC (m.map (4294967295 - ·))) 13 1, [[]])) ?_ n 0 _ _ (by omega) ⟨by simp only [zfa, ↓reduceIte, Nat.reduceEqDiff, e3], by simp only [zfa, ↓reduceIte, Nat.reduceEqDiff], by simp only [zfa, ↓reduceIte, Nat.reduceEqDiff]; rfl, by rw [notI_0]; exact j5', by omega⟩
    intro k i hx ih env s ⟨e3, e24, e25, j5, hi⟩
    by_cases hp : i = 13
    · subst hp
      have q1 : ¬ (((13 : Nat) : Int) < 13) := by omega
      simp only [zaa, zab, zac, zad, zae, zaf, zag, zah, zai, zaj, zak, zal, zam, zan, zao, zap, zaq, zar, zas, zat, zau, zav, zaw, zax, zay, zaz, zba, zbb, zbc, zbd, zbe, zbf, zbg, zbh, zbi, zbj, Nat.reduceBEq, Bool.or_self, Bool.or_false, Bool.or_true, Bool.and_true, Bool.and_false, Bool.true_and, Bool.false_and, Option.isNone_none, Option.isNone_some, Option.isSome_some, Option.isSome_none, zbk, zbl, zbm, zbn, zbo, zbp, zbq, zbr, zbs, zbt, zbu, zbv, zbw, zbx, zby, zbz, zca, zcb, zcc, zcd, zce, zcf, zcg, zch, zci, zcj, zck, zcl, zcm, zcn, zco, zcp, zcq, zcr, zcs, zct, zcu, zcv, zcw, zcx, zcy, zcz, zda, zdb, zdc, zdd, zde, zdf, Option.getD_some, Option.getD_none, zet, zeu, zev, zew, zex, zey, zez, zfa, Option.map_some, Option.map_none, Option.bind_some, List.map_cons, List.map_nil, List.cons_append, List.nil_append, ↓reduceIte, Nat.reduceEqDiff, Nat.reduceAdd, decide_true, decide_false, Bool.true_eq_false, Bool.false_eq_true, env0, List.getElem?_cons_zero, List.getElem?_cons_succ, zdg, zdh, zdi, zdj, zdk, zdl, zdm, zdn, ia22, ld31, zdo, zdp, zdq, zdr, zds, zdt, zdu, zdv, zdw, zdx, zdy, zdz, zea, zeb, zec, fa_0, fa_1, zed, bd_0, bd_2, zee, fd_1, zef, Nat.zero_add, e3, e24, e25, q1]
      rw [← hml, notI_all] at j5
      exact finish_own _ _ 5 1 13 _ _ _ _ (by simp only [zfa, ↓reduceIte]) j5 (by simp) (by rw [List.length_map, hml]) rfl
    · have q1 : (i : Int) < 13 := by omega
      have q2 : (0 : Int) ≤ (i : Int) := by omega
      have hol : (notI m i).length = 13 := by rw [notI_len, hml]
      have ia := ia_own s 5 1 _ 13 .i64 (i : Int) j5 q2 q1
      rw [Int.toNat_natCast] at ia
      have ld := ld_own s 5 1 (notI m i) i j5 (by omega)
      rw [notI_get m i (by omega)] at ld
      have nt := s_not (m.getD i 0) (getD_lt m hmL i)
      have st := st31 s 5 1 _ i (4294967295 - m.getD i 0) j5 (by omega)
      rw [notI_set m i (by omega)] at st
      have f4 := i_add Tryd.prog 3 (i : Int) 1 (by omega) (by omega)
      simp only [zaa, zab, zac, zad, zae, zaf, zag, zah, zai, zaj, zak, zal, zam, zan, zao, zap, zaq, zar, zas, zat, zau, zav, zaw, zax, zay, zaz, zba, zbb, zbc, zbd, zbe, zbf, zbg, zbh, zbi, zbj, Nat.reduceBEq, Bool.or_self, Bool.or_false, Bool.or_true, Bool.and_true, Bool.and_false, Bool.true_and, Bool.false_and, Option.isNone_none, Option.isNone_some, Option.isSome_some, Option.isSome_none, zbk, zbl, zbm, zbn, zbo, zbp, zbq, zbr, zbs, zbt, zbu, zbv, zbw, zbx, zby, zbz, zca, zcb, zcc, zcd, zce, zcf, zcg, zch, zci, zcj, zck, zcl, zcm, zcn, zco, zcp, zcq, zcr, zcs, zct, zcu, zcv, zcw, zcx, zcy, zcz, zda, zdb, zdc, zdd, zde, zdf, Option.getD_some, Option.getD_none, zet, zeu, zev, zew, zex, zey, zez, zfa, Option.map_some, Option.map_none, Option.bind_some, List.map_cons, List.map_nil, List.cons_append, List.nil_append, ↓reduceIte, Nat.reduceEqDiff, Nat.reduceAdd, decide_true, decide_false, Bool.true_eq_false, Bool.false_eq_true, env0, List.getElem?_cons_zero, List.getElem?_cons_succ, zdg, zdh, zdi, zdj, zdk, zdl, zdm, zdn, ia22, ld31, zdo, zdp, zdq, zdr, zds, zdt, zdu, zdv, zdw, zdx, zdy, zdz, zea, zeb, zec, fa_0, fa_1, zed, bd_0, bd_2, zee, fd_1, zef, Nat.zero_add, e3, e24, e25, q1, ia, ld, nt, st, f4]
      refine ih (i + 1) _ _ (by omega) rfl ⟨?_, ?_, ?_, ?_, by omega⟩
      · simp only [zfa, ↓reduceIte, Nat.reduceEqDiff, e3]
      · simp only [zfa, ↓reduceIte, Nat.reduceEqDiff, e24]
      · simp only [zfa, ↓reduceIte, Nat.reduceEqDiff]; rfl
      · simp only [zfa, ↓reduceIte, Nat.reduceEqDiff]
  · rw [show tcL z = digs z.natAbs ++ List.replicate (13 - (digs z.natAbs).length) 0 by rw [tcL, if_neg hz]]
    simp only [zaa, zab, zac, zad, zae, zaf, zag, zah, zai, zaj, zak, zal, zam, zan, zao, zap, zaq, zar, zas, zat, zau, zav, zaw, zax, zay, zaz, zba, zbb, zbc, zbd, zbe, zbf, zbg, zbh, zbi, zbj, Nat.reduceBEq, Bool.or_self, Bool.or_false, Bool.or_true, Bool.and_true, Bool.and_false, Bool.true_and, Bool.false_and, Option.isNone_none, Option.isNone_some, Option.isSome_some, Option.isSome_none, zbk, zbl, zbm, zbn, zbo, zbp, zbq, zbr, zbs, zbt, zbu, zbv, zbw, zbx, zby, zbz, zca, zcb, zcc, zcd, zce, zcf, zcg, zch, zci, zcj, zck, zcl, zcm, zcn, zco, zcp, zcq, zcr, zcs, zct, zcu, zcv, zcw, zcx, zcy, zcz, zda, zdb, zdc, zdd, zde, zdf, Option.getD_some, Option.getD_none, zet, zeu, zev, zew, zex, zey, zez, zfa, Option.map_some, Option.map_none, Option.bind_some, List.map_cons, List.map_nil, List.cons_append, List.nil_append, ↓reduceIte, Nat.reduceEqDiff, Nat.reduceAdd, decide_true, decide_false, Bool.true_eq_false, Bool.false_eq_true, env0, List.getElem?_cons_zero, List.getElem?_cons_succ, zdg, zdh, zdi, zdj, zdk, zdl, zdm, zdn, ia22, ld31, zdo, zdp, zdq, zdr, zds, zdt, zdu, zdv, zdw, zdx, zdy, zdz, zea, zeb, zec, fa_0, fa_1, zed, bd_0, bd_2, zee, fd_1, zef, Nat.zero_add, e1, e3, j1, hz]
    exact finish_own _ _ 5 1 13 _ _ _ _ (by simp only [zfa, ↓reduceIte]) (by simp only [zfa, ↓reduceIte]) (by simp) (by rw [List.length_append, List.length_replicate]; omega) rfl
end Go.Ab

/- Logic of numbers. Conditions: numbers that are shown. -/
namespace Go.Ab
open Go.Proofs
set_option maxRecDepth 100000
set_option linter.unusedSimpArgs false

theorem callA_own {cfg : Cfg} {call : FuncId → List Arg → Option Out} {d : Nat} {s : St} {f : FuncId} {vs : List AV} {xs : List AV} {len e : Nat} (ht : vs.all isTree = true) (hc : call f (vs.map Arg.tree) = some (.own xs len e, vs.map fun _ => [])) : callA cfg call d s f vs = some (.own d ((s d).t + 1) 0 len e, upd s d ⟨(s d).t + 1, .buf xs⟩) := by
  simp only [callA, argsA_trees f s vs 0 ht, Option.bind_some, givesL_trees, lendsL_trees vs ht, List.nodup_nil, List.not_mem_nil, false_implies, implies_true, and_self, if_true, hc, List.foldl_nil, ite_self, backA_trees, resA]
theorem made_own (n d : Nat) (hn : 100000 ≤ n) (D : Nat) (s : St) (b : Bool) (p t : Nat) (o : List Nat) (len : Nat) (hp : s p = ⟨t, .buf (encC o)⟩) (hl : o.length = len) (hk : len ≤ 1000) (hL : Limbs o) : callA cfg0 (evalFn Tryd.prog cfg0 n (d+2)) D s 38 [.bool b, .own p t 0 len 1] = some (madeV (sgn b (val o)), upd s p ⟨t, .frz (encC o)⟩) := by
  subst hl
  have this := made_eq n d b .l o hL (by omega) (by omega)
  rw [show encL .l o = .sl (encC o) o.length .loose from rfl] at this
  have hf : flatR (.tree (madeV (sgn b (val o)))) = false := rfl
  rw [← madeV_eq] at this
  have ht : (encC o).take o.length = encC o := List.take_of_length_le (by rw [encC_len]; exact Nat.le_refl _)
  have hfz : frzAt s p = upd s p ⟨t, .frz (encC o)⟩ := by unfold frzAt; rw [hp]
  simp [callA, argsA, argA, cellsAt, hp, ht, encC_len, givesL, lendsL, givesOf, lendsOf, this, hf, backA, resA, hfz, show ∀ f j, cfg0.lin f j = false from fun _ _ => rfl]
theorem add_own1 (n d : Nat) (hn : 100000 ≤ n) (D : Nat) (s : St) (p t : Nat) (o : List Nat) (len : Nat) (hp : s p = ⟨t, .buf (encC o)⟩) (hl : o.length = len) (hk : len ≤ 1000) (hL : Limbs o) : callA cfg0 (evalFn Tryd.prog cfg0 n (d+2)) D s 59 [.own p t 0 len 1, .sl [.int .u32 1] 1 .tight] = some (encR (val o + 1), upd s p ⟨t, .frz (encC o)⟩) := by
  subst hl
  have this := fnAdd_eq n d .l .t o [1] hL (limbs_one (by decide)) (by omega) (by simp; omega) (by omega) (by simp)
  rw [show encL .l o = .sl (encC o) o.length .loose from rfl, show encL .t [1] = .sl [.int .u32 1] 1 .tight from rfl, show val [1] = 1 from rfl] at this
  have hf : flatR (.tree (encR (val o + 1))) = false := rfl
  have ht : (encC o).take o.length = encC o := List.take_of_length_le (by rw [encC_len]; exact Nat.le_refl _)
  have hfz : frzAt s p = upd s p ⟨t, .frz (encC o)⟩ := by unfold frzAt; rw [hp]
  simp [callA, argsA, argA, cellsAt, hp, ht, encC_len, givesL, lendsL, givesOf, lendsOf, this, hf, backA, resA, hfz, show ∀ f j, cfg0.lin f j = false from fun _ _ => rfl]
/-- Put together up to a place. -/
def zipI (op : Nat) (x y : List Nat) (i : Nat) : List Nat := (List.zipWith (wordN op) x y).take i ++ x.drop i
theorem zipI_len (op : Nat) (x y : List Nat) (i : Nat) (h : x.length = y.length) : (zipI op x y i).length = x.length := by
  simp only [zipI, List.length_append, List.length_take, List.length_zipWith, List.length_drop]; omega
theorem zipI_0 (op : Nat) (x y : List Nat) : zipI op x y 0 = x := by simp [zipI]
theorem zipI_all (op : Nat) (x y : List Nat) (h : x.length = y.length) : zipI op x y x.length = List.zipWith (wordN op) x y := by
  simp only [zipI, List.drop_length, List.append_nil]
  exact List.take_of_length_le (by rw [List.length_zipWith]; omega)
theorem zipI_get (op : Nat) (x y : List Nat) (i : Nat) (h : x.length = y.length) (hi : i < x.length) : (zipI op x y i).getD i 0 = x.getD i 0 := by
  have hl : ((List.zipWith (wordN op) x y).take i).length = i := by rw [List.length_take, List.length_zipWith]; omega
  rw [zipI, List.getD_eq_getElem?_getD, List.getD_eq_getElem?_getD, List.getElem?_append_right (by omega), hl, Nat.sub_self, List.getElem?_drop, Nat.add_zero]
theorem zipI_set (op : Nat) (x y : List Nat) (i : Nat) (h : x.length = y.length) (hi : i < x.length) : (zipI op x y i).set i (wordN op (x.getD i 0) (y.getD i 0)) = zipI op x y (i + 1) := by
  have hz : i < (List.zipWith (wordN op) x y).length := by rw [List.length_zipWith]; omega
  have hl : ((List.zipWith (wordN op) x y).take i).length = i := by rw [List.length_take]; omega
  rw [zipI, List.set_append_right _ _ (by omega), hl, Nat.sub_self, List.drop_eq_getElem_cons hi, List.set_cons_zero, zipI, List.take_succ_eq_append_getElem hz, List.append_assoc]
  have hiy : i < y.length := by omega
  simp [List.getD_eq_getElem?_getD, hi, hiy]
theorem zipI_limbs (op : Nat) (x y : List Nat) (i : Nat) (hx : Limbs x) (hy : Limbs y) : Limbs (zipI op x y i) := ((limbs_zip op x y hx hy).take i).app (hx.drop i)
set_option maxHeartbeats 8000000 in
theorem logic_eq (n d : Nat) (hn : 100000 ≤ n) (op : Nat) (g g' : Gk) (z z' : Int) (hlt : z.natAbs < B ^ 12) (hlt' : z'.natAbs < B ^ 12) : evalFn Tryd.prog cfg0 n (d+6) 41 [.tree (.int .i64 (op : Int)), .tree (canA g z), .tree (canA g' z')] = some (.tree (madeV (logZ op z z')), [[], [], []]) := by
  rw [evalFn_go _ Tryd.func41 (by unfold Tryd.f41; rfl) (by unfold Tryd.f41; decide) (Nat.le_of_ble_eq_true (by unfold Tryd.f41; rfl)) (by kernel_rfl)]
  have b1 := fun D s => callA_own (cfg := cfg0) (d := D) (s := s) (vs := [canA g z]) rfl (nbits_eq n d hn g z hlt)
  have b2 := fun D s => callA_own (cfg := cfg0) (d := D) (s := s) (vs := [canA g' z']) rfl (nbits_eq n d hn g' z' hlt')
  obtain ⟨hx, hxl, hxv⟩ := tcL_ok z hlt
  obtain ⟨hy, hyl, hyv⟩ := tcL_ok z' hlt'
  have tt : ∀ g z, ([canA g z] : List AV).all isTree = true := fun _ _ => rfl
  simp only [zaa, zab, zac, zad, zae, zaf, zag, zah, zai, zaj, zak, zal, zam, zan, zao, zap, zaq, zar, zas, zat, zau, zav, zaw, zax, zay, zaz, zba, zbb, zbc, zbd, zbe, zbf, zbg, zbh, zbi, zbj, Nat.reduceBEq, Bool.or_self, Bool.or_false, Bool.or_true, Bool.and_true, Bool.and_false, Bool.true_and, Bool.false_and, Option.isNone_none, Option.isNone_some, Option.isSome_some, Option.isSome_none, zbk, zbl, zbm, zbn, zbo, zbp, zbq, zbr, zbs, zbt, zbu, zbv, zbw, zbx, zby, zbz, zca, zcb, zcc, zcd, zce, zcf, zcg, zch, zci, zcj, zck, zcl, zcm, zcn, zco, zcp, zcq, zcr, zcs, zct, zcu, zcv, zcw, zcx, zcy, zcz, zda, zdb, zdc, zdd, zde, zdf, Option.getD_some, Option.getD_none, zet, zeu, zev, zew, zex, zey, zez, zfa, Option.map_some, Option.map_none, Option.bind_some, List.map_cons, List.map_nil, List.cons_append, List.nil_append, ↓reduceIte, Nat.reduceEqDiff, Nat.reduceAdd, decide_true, decide_false, Bool.true_eq_false, Bool.false_eq_true, env0, List.getElem?_cons_zero, List.getElem?_cons_succ, zdg, zdh, zdi, zdj, zdk, zdl, zdm, zdn, ia22, ld31, zdo, zdp, zdq, zdr, zds, zdt, zdu, zdv, zdw, zdx, zdy, zdz, zea, zeb, zec, fa_0, fa_1, zed, bd_0, bd_2, zee, fd_1, zef, Nat.zero_add, st0_3', b1, b2, tt]
  generalize hX : tcL z = x at *
  generalize hY : tcL z' = y at *
  refine forgetS (fun s => (lenA Tryd.prog 22 s (.own 13 1 0 13 1)).map (·, s)) (fun env s => env 0 = .int .i64 (op : Int) ∧ env 6 = .ptr 6 1 0 ∧ env 8 = .own 13 1 0 13 1 ∧ env 9 = .own 15 1 0 13 1 ∧ s 13 = ⟨1, .buf (encC x)⟩ ∧ s 15 = ⟨1, .buf (encC y)⟩ ∧ ∃ p q, s 6 = ⟨1, .buf [p, q]⟩) ⟨by simp only [zfa, ↓reduceIte, Nat.reduceEqDiff, env0, List.getElem?_cons_zero, List.getElem?_cons_succ], by simp only [zfa, ↓reduceIte, Nat.reduceEqDiff], by simp only [zfa, ↓reduceIte, Nat.reduceEqDiff], by simp only [zfa, ↓reduceIte, Nat.reduceEqDiff], by simp only [zfa, ↓reduceIte, Nat.reduceEqDiff], by simp only [zfa, ↓reduceIte, Nat.reduceEqDiff], .bool false, .sl [] 0 .nil, by simp only [zfa, ↓reduceIte, Nat.reduceEqDiff]⟩ ?_
  clear b1 b2
  intro env s ⟨e0, e6, e8, e9, j13, j15, p, q, j6⟩
  have ln := len_own s 13 1 0 13 _ j13
  rw [show ((13 : Nat) : Int) = 13 from rfl] at ln
  simp only [zaa, zab, zac, zad, zae, zaf, zag, zah, zai, zaj, zak, zal, zam, zan, zao, zap, zaq, zar, zas, zat, zau, zav, zaw, zax, zay, zaz, zba, zbb, zbc, zbd, zbe, zbf, zbg, zbh, zbi, zbj, Nat.reduceBEq, Bool.or_self, Bool.or_false, Bool.or_true, Bool.and_true, Bool.and_false, Bool.true_and, Bool.false_and, Option.isNone_none, Option.isNone_some, Option.isSome_some, Option.isSome_none, zbk, zbl, zbm, zbn, zbo, zbp, zbq, zbr, zbs, zbt, zbu, zbv, zbw, zbx, zby, zbz, zca, zcb, zcc, zcd, zce, zcf, zcg, zch, zci, zcj, zck, zcl, zcm, zcn, zco, zcp, zcq, zcr, zcs, zct, zcu, zcv, zcw, zcx, zcy, zcz, zda, zdb, zdc, zdd, zde, zdf, Option.getD_some, Option.getD_none, zet, zeu, zev, zew, zex, zey, zez, zfa, Option.map_some, Option.map_none, Option.bind_some, List.map_cons, List.map_nil, List.cons_append, List.nil_append, ↓reduceIte, Nat.reduceEqDiff, Nat.reduceAdd, decide_true, decide_false, Bool.true_eq_false, Bool.false_eq_true, zdg, zdh, zdi, zdj, zdk, zdl, zdm, zdn, ia22, ld31, zdo, zdp, zdq, zdr, zds, zdt, zdu, zdv, zdw, zdx, zdy, zdz, zea, zeb, zec, fa_0, fa_1, zed, bd_0, bd_2, zee, fd_1, zef, Nat.zero_add, ln, den_loop]
  refine loop_ends (X := Nat) (fun i env s => env 0 = .int .i64 (op : Int) ∧ env 6 = .ptr 6 1 0 ∧ env 8 = .own 13 1 0 13 1 ∧ env 9 = .own 15 1 0 13 1 ∧ env 17 = .int .i64 13 ∧ env 18 = .int .i64 (i : Int) ∧ s 13 = ⟨1, .buf (encC (zipI op x y i))⟩ ∧ s 15 = ⟨1, .buf (encC y)⟩ ∧ s 6 = ⟨1, .buf [p, q]⟩ ∧ i ≤ 13) (fun i => 13 - i) (fun _ => (.tree (madeV (logZ op z z')), [[], [], []])) ?_ n 0 _ _ (by omega) ⟨by simp only [zfa, ↓reduceIte, Nat.reduceEqDiff, e0], by simp only [zfa, ↓reduceIte, Nat.reduceEqDiff, e6], by simp only [zfa, ↓reduceIte, Nat.reduceEqDiff, e8], by simp only [zfa, ↓reduceIte, Nat.reduceEqDiff, e9], by simp only [zfa, ↓reduceIte, Nat.reduceEqDiff], by simp only [zfa, ↓reduceIte, Nat.reduceEqDiff]; rfl, by rw [zipI_0]; exact j13, j15, j6, by omega⟩
  clear e0 e6 e8 e9 j13 j15 j6 ln
  intro k i hxk ih env s ⟨e0, e6, e8, e9, e17, e18, j13, j15, j6, hi⟩
  by_cases hp : i = 13
  · subst hp
    have q1 : ¬ (((13 : Nat) : Int) < 13) := by omega
    have hza := zipI_all op x y (by omega)
    rw [hxl] at hza
    rw [hza] at j13
    have hzL := limbs_zip op x y hx hy
    have hzv := val_zip op x y hx hy (by omega)
    have hzl : (List.zipWith (wordN op) x y).length = 13 := by rw [List.length_zipWith]; omega
    rw [hxv, hyv] at hzv
    generalize hO : List.zipWith (wordN op) x y = o at *
    have htop := top_limb o hzL hzl
    have ia := ia_own s 13 1 o 13 .i64 12 j13 (by decide) (by decide)
    rw [show (12 : Int).toNat = 12 from rfl] at ia
    have ld := ld_own s 13 1 o 12 j13 (by omega)
    have sh := s_shr Tryd.prog 48 (o.getD 12 0) .u64 31 (by decide) (by decide)
    rw [show (2 : Nat) ^ (31 : Int).toNat = 2 ^ 31 from rfl] at sh
    by_cases ht : o.getD 12 0 / 2 ^ 31 = 0
    · have pt : (((o.getD 12 0 / 2 ^ 31 : Nat) : Int) == 0) = true := by rw [ht]; rfl
      have hres : sgn false (val o) = logZ op z z' := by
        rw [logZ, ← hzv, unZ, htop, if_pos ht]; rfl
      have c1 := fun D => made_own n (d + 3) hn D s false 13 1 o 13 j13 hzl (by omega) hzL
      rw [hres] at c1
      simp only [zaa, zab, zac, zad, zae, zaf, zag, zah, zai, zaj, zak, zal, zam, zan, zao, zap, zaq, zar, zas, zat, zau, zav, zaw, zax, zay, zaz, zba, zbb, zbc, zbd, zbe, zbf, zbg, zbh, zbi, zbj, Nat.reduceBEq, Bool.or_self, Bool.or_false, Bool.or_true, Bool.and_true, Bool.and_false, Bool.true_and, Bool.false_and, Option.isNone_none, Option.isNone_some, Option.isSome_some, Option.isSome_none, zbk, zbl, zbm, zbn, zbo, zbp, zbq, zbr, zbs, zbt, zbu, zbv, zbw, zbx, zby, zbz, zca, zcb, zcc, zcd, zce, zcf, zcg, zch, zci, zcj, zck, zcl, zcm, zcn, zco, zcp, zcq, zcr, zcs, zct, zcu, zcv, zcw, zcx, zcy, zcz, zda, zdb, zdc, zdd, zde, zdf, Option.getD_some, Option.getD_none, zet, zeu, zev, zew, zex, zey, zez, zfa, Option.map_some, Option.map_none, Option.bind_some, List.map_cons, List.map_nil, List.cons_append, List.nil_append, ↓reduceIte, Nat.reduceEqDiff, Nat.reduceAdd, decide_true, decide_false, Bool.true_eq_false, Bool.false_eq_true, env0, List.getElem?_cons_zero, List.getElem?_cons_succ, zdg, zdh, zdi, zdj, zdk, zdl, zdm, zdn, ia22, ld31, zdo, zdp, zdq, zdr, zds, zdt, zdu, zdv, zdw, zdx, zdy, zdz, zea, zeb, zec, fa_0, fa_1, zed, bd_0, bd_2, zee, fd_1, zef, Nat.zero_add, e0, e6, e8, e9, e17, e18, q1, ia, ld, sh, pt, c1, madeV_eq, ext_0, ext_1, st_Z, j6]
      exact finish_ct _ _ 6 6 1 _ _ _ _ _ _ _ (by simp only [zfa, ↓reduceIte, Nat.reduceEqDiff, e6]) (by simp only [zfa, ↓reduceIte, Nat.reduceEqDiff]) (by simp only [zfa, ↓reduceIte, Nat.reduceEqDiff]) rfl
    · have pt : (((o.getD 12 0 / 2 ^ 31 : Nat) : Int) == 0) = false := by rw [beq_eq_false_iff_ne]; omega
      have ln := len_own s 13 1 0 13 _ j13
      rw [show ((13 : Nat) : Int) = 13 from rfl] at ln
      have hnot := val_not o hzL
      rw [hzl] at hnot
      have hres : sgn true (val (o.map (4294967295 - ·)) + 1) = logZ op z z' := by
        rw [logZ, ← hzv, unZ, htop, if_neg ht]
        show -((val (o.map (4294967295 - ·)) + 1 : Nat) : Int) = _
        rw [show val (o.map (4294967295 - ·)) + 1 = B ^ 13 - val o by omega]
      simp only [zaa, zab, zac, zad, zae, zaf, zag, zah, zai, zaj, zak, zal, zam, zan, zao, zap, zaq, zar, zas, zat, zau, zav, zaw, zax, zay, zaz, zba, zbb, zbc, zbd, zbe, zbf, zbg, zbh, zbi, zbj, Nat.reduceBEq, Bool.or_self, Bool.or_false, Bool.or_true, Bool.and_true, Bool.and_false, Bool.true_and, Bool.false_and, Option.isNone_none, Option.isNone_some, Option.isSome_some, Option.isSome_none, zbk, zbl, zbm, zbn, zbo, zbp, zbq, zbr, zbs, zbt, zbu, zbv, zbw, zbx, zby, zbz, zca, zcb, zcc, zcd, zce, zcf, zcg, zch, zci, zcj, zck, zcl, zcm, zcn, zco, zcp, zcq, zcr, zcs, zct, zcu, zcv, zcw, zcx, zcy, zcz, zda, zdb, zdc, zdd, zde, zdf, Option.getD_some, Option.getD_none, zet, zeu, zev, zew, zex, zey, zez, zfa, Option.map_some, Option.map_none, Option.bind_some, List.map_cons, List.map_nil, List.cons_append, List.nil_append, ↓reduceIte, Nat.reduceEqDiff, Nat.reduceAdd, decide_true, decide_false, Bool.true_eq_false, Bool.false_eq_true, env0, List.getElem?_cons_zero, List.getElem?_cons_succ, zdg, zdh, zdi, zdj, zdk, zdl, zdm, zdn, ia22, ld31, zdo, zdp, zdq, zdr, zds, zdt, zdu, zdv, zdw, zdx, zdy, zdz, zea, zeb, zec, fa_0, fa_1, zed, bd_0, bd_2, zee, fd_1, zef, Nat.zero_add, e0, e6, e8, e9, e17, e18, q1, ia, ld, sh, pt, ln, den_loop]
      refine loop_ends (X := Nat) (fun i env s => env 6 = .ptr 6 1 0 ∧ env 8 = .own 13 1 0 13 1 ∧ env 45 = .int .i64 13 ∧ env 46 = .int .i64 (i : Int) ∧ s 13 = ⟨1, .buf (encC (notI o i))⟩ ∧ s 6 = ⟨1, .buf [p, q]⟩ ∧ i ≤ 13) (fun i => 13 - i) (fun _ => (.tree (madeV (logZ op z z')), [[], [], []])) ?_ n 0 _ _ (by omega) ⟨by simp only [zfa, ↓reduceIte, Nat.reduceEqDiff, e6], by simp only [zfa, ↓reduceIte, Nat.reduceEqDiff, e8], by simp only [zfa, ↓reduceIte, Nat.reduceEqDiff], by simp only [zfa, ↓reduceIte, Nat.reduceEqDiff]; rfl, by rw [notI_0]; exact j13, j6, by omega⟩
      clear e0 e6 e8 e9 e17 e18 j13 j15 j6 ia ld sh ln ih hxk
      intro k i hxk ih env s ⟨e6, e8, e45, e46, j13, j6, hi⟩
      by_cases hp : i = 13
      · subst hp
        have q1 : ¬ (((13 : Nat) : Int) < 13) := by omega
        have hna := notI_all o
        rw [hzl] at hna
        rw [hna] at j13
        have a1 := fun D => add_own1 n (d + 3) hn D s 13 1 (o.map (4294967295 - ·)) 13 j13 (by rw [List.length_map, hzl]) (by omega) (limbs_not o)
        have hfit : val (o.map (4294967295 - ·)) + 1 < B ^ 14 := by
          have : B ^ 13 * 4 ≤ B ^ 14 := by rw [show (14 : Nat) = 13 + 1 from rfl, Nat.pow_succ]; exact Nat.mul_le_mul_left _ (by decide)
          omega
        have c1 := fun D s => cMade n (d + 3) hn D s (num_R _ 14 (by decide) hfit) true
        rw [hres] at c1
        simp only [zaa, zab, zac, zad, zae, zaf, zag, zah, zai, zaj, zak, zal, zam, zan, zao, zap, zaq, zar, zas, zat, zau, zav, zaw, zax, zay, zaz, zba, zbb, zbc, zbd, zbe, zbf, zbg, zbh, zbi, zbj, Nat.reduceBEq, Bool.or_self, Bool.or_false, Bool.or_true, Bool.and_true, Bool.and_false, Bool.true_and, Bool.false_and, Option.isNone_none, Option.isNone_some, Option.isSome_some, Option.isSome_none, zbk, zbl, zbm, zbn, zbo, zbp, zbq, zbr, zbs, zbt, zbu, zbv, zbw, zbx, zby, zbz, zca, zcb, zcc, zcd, zce, zcf, zcg, zch, zci, zcj, zck, zcl, zcm, zcn, zco, zcp, zcq, zcr, zcs, zct, zcu, zcv, zcw, zcx, zcy, zcz, zda, zdb, zdc, zdd, zde, zdf, Option.getD_some, Option.getD_none, zet, zeu, zev, zew, zex, zey, zez, zfa, Option.map_some, Option.map_none, Option.bind_some, List.map_cons, List.map_nil, List.cons_append, List.nil_append, ↓reduceIte, Nat.reduceEqDiff, Nat.reduceAdd, decide_true, decide_false, Bool.true_eq_false, Bool.false_eq_true, env0, List.getElem?_cons_zero, List.getElem?_cons_succ, zdg, zdh, zdi, zdj, zdk, zdl, zdm, zdn, ia22, ld31, zdo, zdp, zdq, zdr, zds, zdt, zdu, zdv, zdw, zdx, zdy, zdz, zea, zeb, zec, fa_0, fa_1, zed, bd_0, bd_2, zee, fd_1, zef, Nat.zero_add, e6, e8, e45, e46, q1, opA_one, one22_int, a1, c1, madeV_eq, ext_0, ext_1, st_Z, j6]
        exact finish_ct _ _ 6 6 1 _ _ _ _ _ _ _ (by simp only [zfa, ↓reduceIte, Nat.reduceEqDiff, e6]) (by simp only [zfa, ↓reduceIte, Nat.reduceEqDiff]) (by simp only [zfa, ↓reduceIte, Nat.reduceEqDiff]) rfl
      · have q1 : (i : Int) < 13 := by omega
        have q2 : (0 : Int) ≤ (i : Int) := by omega
        have hol : (notI o i).length = 13 := by rw [notI_len, hzl]
        have ia := ia_own s 13 1 _ 13 .i64 (i : Int) j13 q2 q1
        rw [Int.toNat_natCast] at ia
        have ld := ld_own s 13 1 (notI o i) i j13 (by omega)
        rw [notI_get o i (by omega)] at ld
        have nt := s_not (o.getD i 0) (getD_lt o hzL i)
        have st := st31 s 13 1 _ i (4294967295 - o.getD i 0) j13 (by omega)
        rw [notI_set o i (by omega)] at st
        have f4 := i_add Tryd.prog 3 (i : Int) 1 (by omega) (by omega)
        simp only [zaa, zab, zac, zad, zae, zaf, zag, zah, zai, zaj, zak, zal, zam, zan, zao, zap, zaq, zar, zas, zat, zau, zav, zaw, zax, zay, zaz, zba, zbb, zbc, zbd, zbe, zbf, zbg, zbh, zbi, zbj, Nat.reduceBEq, Bool.or_self, Bool.or_false, Bool.or_true, Bool.and_true, Bool.and_false, Bool.true_and, Bool.false_and, Option.isNone_none, Option.isNone_some, Option.isSome_some, Option.isSome_none, zbk, zbl, zbm, zbn, zbo, zbp, zbq, zbr, zbs, zbt, zbu, zbv, zbw, zbx, zby, zbz, zca, zcb, zcc, zcd, zce, zcf, zcg, zch, zci, zcj, zck, zcl, zcm, zcn, zco, zcp, zcq, zcr, zcs, zct, zcu, zcv, zcw, zcx, zcy, zcz, zda, zdb, zdc, zdd, zde, zdf, Option.getD_some, Option.getD_none, zet, zeu, zev, zew, zex, zey, zez, zfa, Option.map_some, Option.map_none, Option.bind_some, List.map_cons, List.map_nil, List.cons_append, List.nil_append, ↓reduceIte, Nat.reduceEqDiff, Nat.reduceAdd, decide_true, decide_false, Bool.true_eq_false, Bool.false_eq_true, env0, List.getElem?_cons_zero, List.getElem?_cons_succ, zdg, zdh, zdi, zdj, zdk, zdl, zdm, zdn, ia22, ld31, zdo, zdp, zdq, zdr, zds, zdt, zdu, zdv, zdw, zdx, zdy, zdz, zea, zeb, zec, fa_0, fa_1, zed, bd_0, bd_2, zee, fd_1, zef, Nat.zero_add, e6, e8, e45, e46, q1, ia, ld, nt, st, f4]
        refine ih (i + 1) _ _ (by omega) rfl ⟨?_, ?_, ?_, ?_, ?_, ?_, by omega⟩
        · simp only [zfa, ↓reduceIte, Nat.reduceEqDiff, e6]
        · simp only [zfa, ↓reduceIte, Nat.reduceEqDiff, e8]
        · simp only [zfa, ↓reduceIte, Nat.reduceEqDiff, e45]
        · simp only [zfa, ↓reduceIte, Nat.reduceEqDiff]; rfl
        · simp only [zfa, ↓reduceIte, Nat.reduceEqDiff]
        · simp only [zfa, ↓reduceIte, Nat.reduceEqDiff, j6]
  · have q1 : (i : Int) < 13 := by omega
    have q2 : (0 : Int) ≤ (i : Int) := by omega
    have hol : (zipI op x y i).length = 13 := by rw [zipI_len op x y i (by omega), hxl]
    have ia := ia_own s 13 1 _ 13 .i64 (i : Int) j13 q2 q1
    rw [Int.toNat_natCast] at ia
    have ld := ld_own s 13 1 (zipI op x y i) i j13 (by omega)
    rw [zipI_get op x y i (by omega) (by omega)] at ld
    have ia2 := ia_own s 15 1 _ 13 .i64 (i : Int) j15 q2 q1
    rw [Int.toNat_natCast] at ia2
    have ld2 := ld_own s 15 1 y i j15 (by omega)
    have qw := qWord n (d + 4) op (x.getD i 0) (y.getD i 0) (getD_lt x hx i) (getD_lt y hy i)
    have st := st31 s 13 1 _ i (wordN op (x.getD i 0) (y.getD i 0)) j13 (by omega)
    rw [zipI_set op x y i (by omega) (by omega)] at st
    have f4 := i_add Tryd.prog 3 (i : Int) 1 (by omega) (by omega)
    simp only [zaa, zab, zac, zad, zae, zaf, zag, zah, zai, zaj, zak, zal, zam, zan, zao, zap, zaq, zar, zas, zat, zau, zav, zaw, zax, zay, zaz, zba, zbb, zbc, zbd, zbe, zbf, zbg, zbh, zbi, zbj, Nat.reduceBEq, Bool.or_self, Bool.or_false, Bool.or_true, Bool.and_true, Bool.and_false, Bool.true_and, Bool.false_and, Option.isNone_none, Option.isNone_some, Option.isSome_some, Option.isSome_none, zbk, zbl, zbm, zbn, zbo, zbp, zbq, zbr, zbs, zbt, zbu, zbv, zbw, zbx, zby, zbz, zca, zcb, zcc, zcd, zce, zcf, zcg, zch, zci, zcj, zck, zcl, zcm, zcn, zco, zcp, zcq, zcr, zcs, zct, zcu, zcv, zcw, zcx, zcy, zcz, zda, zdb, zdc, zdd, zde, zdf, Option.getD_some, Option.getD_none, zet, zeu, zev, zew, zex, zey, zez, zfa, Option.map_some, Option.map_none, Option.bind_some, List.map_cons, List.map_nil, List.cons_append, List.nil_append, ↓reduceIte, Nat.reduceEqDiff, Nat.reduceAdd, decide_true, decide_false, Bool.true_eq_false, Bool.false_eq_true, env0, List.getElem?_cons_zero, List.getElem?_cons_succ, zdg, zdh, zdi, zdj, zdk, zdl, zdm, zdn, ia22, ld31, zdo, zdp, zdq, zdr, zds, zdt, zdu, zdv, zdw, zdx, zdy, zdz, zea, zeb, zec, fa_0, fa_1, zed, bd_0, bd_2, zee, fd_1, zef, Nat.zero_add, e0, e6, e8, e9, e17, e18, q1, ia, ld, ia2, ld2, qw, st, f4]
    refine ih (i + 1) _ _ (by omega) rfl ⟨?_, ?_, ?_, ?_, ?_, ?_, ?_, ?_, ?_, by omega⟩
    · simp only [zfa, ↓reduceIte, Nat.reduceEqDiff, e0]
    · simp only [zfa, ↓reduceIte, Nat.reduceEqDiff, e6]
    · simp only [zfa, ↓reduceIte, Nat.reduceEqDiff, e8]
    · simp only [zfa, ↓reduceIte, Nat.reduceEqDiff, e9]
    · simp only [zfa, ↓reduceIte, Nat.reduceEqDiff, e17]
    · simp only [zfa, ↓reduceIte, Nat.reduceEqDiff]; rfl
    · simp only [zfa, ↓reduceIte, Nat.reduceEqDiff]
    · simp only [zfa, ↓reduceIte, Nat.reduceEqDiff, j15]
    · simp only [zfa, ↓reduceIte, Nat.reduceEqDiff, j6]
end Go.Ab

/- Op: logic; the statements' own way to call it. Conditions: numbers that are shown. -/
namespace Go.Ab
open Go.Proofs
set_option maxRecDepth 100000
set_option linter.unusedSimpArgs false
theorem cLogic (n d : Nat) (hn : 100000 ≤ n) (op : Nat) (g g' : Gk) (z z' : Int) (hlt : z.natAbs < B ^ 12) (hlt' : z'.natAbs < B ^ 12) (D : Nat) (s : St) : callA cfg0 (evalFn Tryd.prog cfg0 n (d+6)) D s 41 [.int .i64 (op : Int), canA g z, canA g' z'] = some (madeV (logZ op z z'), s) :=
  callA_trees rfl (logic_eq n d hn op g g' z z' hlt hlt')
section
variable (n d : Nat) (hn : 100000 ≤ n) {w w' : AV} {z z' : Int} (hw : IsN w z) (hw' : IsN w' z')
include hn hw hw'
set_option maxHeartbeats 8000000
theorem op6_eq : evalFn Tryd.prog cfg0 n (d+7) 14 [.tree (.int .i64 6), .tree w, .tree w'] = some (.tree (madeV (logZ 6 z z')), [[], [], []]) := by
  obtain ⟨g, c1⟩ := qOf n (d + 4) hw
  obtain ⟨g', c2⟩ := qOf n (d + 4) hw'
  have hlt := hw.lt
  have hlt' := hw'.lt
  obtain ⟨neg, g0, l, rfl, hl, hz⟩ := hw
  obtain ⟨neg', g0', l', rfl, hl', hz'⟩ := hw'
  rw [evalFn_go _ Tryd.func14 (by unfold Tryd.f14; rfl) (by unfold Tryd.f14; decide) (Nat.le_of_ble_eq_true (by unfold Tryd.f14; rfl)) (by kernel_rfl)]
  have c3 := fun D s => cLogic n d hn 6 g g' z z' hlt hlt' D s
  rw [show ((6 : Nat) : Int) = 6 from rfl] at c3
  simp only [zaa, zab, zac, zad, zae, zaf, zag, zah, zai, zaj, zak, zal, zam, zan, zao, zap, zaq, zar, zas, zat, zau, zav, zaw, zax, zay, zaz, zba, zbb, zbc, zbd, zbe, zbf, zbg, zbh, zbi, zbj, Nat.reduceBEq, Bool.or_self, Bool.or_false, Bool.or_true, Bool.and_true, Bool.and_false, Bool.true_and, Bool.false_and, Option.isNone_none, Option.isNone_some, Option.isSome_some, Option.isSome_none, zbk, zbl, zbm, zbn, zbo, zbp, zbq, zbr, zbs, zbt, zbu, zbv, zbw, zbx, zby, zbz, zca, zcb, zcc, zcd, zce, zcf, zcg, zch, zci, zcj, zck, zcl, zcm, zcn, zco, zcp, zcq, zcr, zcs, zct, zcu, zcv, zcw, zcx, zcy, zcz, zda, zdb, zdc, zdd, zde, zdf, Option.getD_some, Option.getD_none, zet, zeu, zev, zew, zex, zey, zez, zfa, Option.map_some, Option.map_none, Option.bind_some, List.map_cons, List.map_nil, List.cons_append, List.nil_append, ↓reduceIte, Nat.reduceEqDiff, Nat.reduceAdd, decide_true, decide_false, Bool.true_eq_false, Bool.false_eq_true, env0, List.getElem?_cons_zero, List.getElem?_cons_succ, zdg, zdh, zdi, zdj, zdk, zdl, zdm, zdn, ia22, ld31, zdo, zdp, zdq, zdr, zds, zdt, zdu, zdv, zdw, zdx, zdy, zdz, zea, zeb, zec, fa_0, fa_1, zed, bd_0, bd_2, zee, fd_1, zef, Nat.zero_add, st0_3', c1, c2, Int.reduceBEq, c3, madeV_eq, ext_0, ext_1, st_Z]
  exact finish_ct _ _ 6 6 1 _ _ _ _ _ _ _ (by simp only [zfa, ↓reduceIte, Nat.reduceEqDiff]) (by simp only [zfa, ↓reduceIte, Nat.reduceEqDiff]) (by simp only [zfa, ↓reduceIte, Nat.reduceEqDiff]) rfl
theorem op7_eq : evalFn Tryd.prog cfg0 n (d+7) 14 [.tree (.int .i64 7), .tree w, .tree w'] = some (.tree (madeV (logZ 7 z z')), [[], [], []]) := by
  obtain ⟨g, c1⟩ := qOf n (d + 4) hw
  obtain ⟨g', c2⟩ := qOf n (d + 4) hw'
  have hlt := hw.lt
  have hlt' := hw'.lt
  obtain ⟨neg, g0, l, rfl, hl, hz⟩ := hw
  obtain ⟨neg', g0', l', rfl, hl', hz'⟩ := hw'
  rw [evalFn_go _ Tryd.func14 (by unfold Tryd.f14; rfl) (by unfold Tryd.f14; decide) (Nat.le_of_ble_eq_true (by unfold Tryd.f14; rfl)) (by kernel_rfl)]
  have c3 := fun D s => cLogic n d hn 7 g g' z z' hlt hlt' D s
  rw [show ((7 : Nat) : Int) = 7 from rfl] at c3
  simp only [zaa, zab, zac, zad, zae, zaf, zag, zah, zai, zaj, zak, zal, zam, zan, zao, zap, zaq, zar, zas, zat, zau, zav, zaw, zax, zay, zaz, zba, zbb, zbc, zbd, zbe, zbf, zbg, zbh, zbi, zbj, Nat.reduceBEq, Bool.or_self, Bool.or_false, Bool.or_true, Bool.and_true, Bool.and_false, Bool.true_and, Bool.false_and, Option.isNone_none, Option.isNone_some, Option.isSome_some, Option.isSome_none, zbk, zbl, zbm, zbn, zbo, zbp, zbq, zbr, zbs, zbt, zbu, zbv, zbw, zbx, zby, zbz, zca, zcb, zcc, zcd, zce, zcf, zcg, zch, zci, zcj, zck, zcl, zcm, zcn, zco, zcp, zcq, zcr, zcs, zct, zcu, zcv, zcw, zcx, zcy, zcz, zda, zdb, zdc, zdd, zde, zdf, Option.getD_some, Option.getD_none, zet, zeu, zev, zew, zex, zey, zez, zfa, Option.map_some, Option.map_none, Option.bind_some, List.map_cons, List.map_nil, List.cons_append, List.nil_append, ↓reduceIte, Nat.reduceEqDiff, Nat.reduceAdd, decide_true, decide_false, Bool.true_eq_false, Bool.false_eq_true, env0, List.getElem?_cons_zero, List.getElem?_cons_succ, zdg, zdh, zdi, zdj, zdk, zdl, zdm, zdn, ia22, ld31, zdo, zdp, zdq, zdr, zds, zdt, zdu, zdv, zdw, zdx, zdy, zdz, zea, zeb, zec, fa_0, fa_1, zed, bd_0, bd_2, zee, fd_1, zef, Nat.zero_add, st0_3', c1, c2, Int.reduceBEq, c3, madeV_eq, ext_0, ext_1, st_Z]
  exact finish_ct _ _ 6 6 1 _ _ _ _ _ _ _ (by simp only [zfa, ↓reduceIte, Nat.reduceEqDiff]) (by simp only [zfa, ↓reduceIte, Nat.reduceEqDiff]) (by simp only [zfa, ↓reduceIte, Nat.reduceEqDiff]) rfl
theorem op8_eq : evalFn Tryd.prog cfg0 n (d+7) 14 [.tree (.int .i64 8), .tree w, .tree w'] = some (.tree (madeV (logZ 8 z z')), [[], [], []]) := by
  obtain ⟨g, c1⟩ := qOf n (d + 4) hw
  obtain ⟨g', c2⟩ := qOf n (d + 4) hw'
  have hlt := hw.lt
  have hlt' := hw'.lt
  obtain ⟨neg, g0, l, rfl, hl, hz⟩ := hw
  obtain ⟨neg', g0', l', rfl, hl', hz'⟩ := hw'
  rw [evalFn_go _ Tryd.func14 (by unfold Tryd.f14; rfl) (by unfold Tryd.f14; decide) (Nat.le_of_ble_eq_true (by unfold Tryd.f14; rfl)) (by kernel_rfl)]
  have c3 := fun D s => cLogic n d hn 8 g g' z z' hlt hlt' D s
  rw [show ((8 : Nat) : Int) = 8 from rfl] at c3
  simp only [zaa, zab, zac, zad, zae, zaf, zag, zah, zai, zaj, zak, zal, zam, zan, zao, zap, zaq, zar, zas, zat, zau, zav, zaw, zax, zay, zaz, zba, zbb, zbc, zbd, zbe, zbf, zbg, zbh, zbi, zbj, Nat.reduceBEq, Bool.or_self, Bool.or_false, Bool.or_true, Bool.and_true, Bool.and_false, Bool.true_and, Bool.false_and, Option.isNone_none, Option.isNone_some, Option.isSome_some, Option.isSome_none, zbk, zbl, zbm, zbn, zbo, zbp, zbq, zbr, zbs, zbt, zbu, zbv, zbw, zbx, zby, zbz, zca, zcb, zcc, zcd, zce, zcf, zcg, zch, zci, zcj, zck, zcl, zcm, zcn, zco, zcp, zcq, zcr, zcs, zct, zcu, zcv, zcw, zcx, zcy, zcz, zda, zdb, zdc, zdd, zde, zdf, Option.getD_some, Option.getD_none, zet, zeu, zev, zew, zex, zey, zez, zfa, Option.map_some, Option.map_none, Option.bind_some, List.map_cons, List.map_nil, List.cons_append, List.nil_append, ↓reduceIte, Nat.reduceEqDiff, Nat.reduceAdd, decide_true, decide_false, Bool.true_eq_false, Bool.false_eq_true, env0, List.getElem?_cons_zero, List.getElem?_cons_succ, zdg, zdh, zdi, zdj, zdk, zdl, zdm, zdn, ia22, ld31, zdo, zdp, zdq, zdr, zds, zdt, zdu, zdv, zdw, zdx, zdy, zdz, zea, zeb, zec, fa_0, fa_1, zed, bd_0, bd_2, zee, fd_1, zef, Nat.zero_add, st0_3', c1, c2, Int.reduceBEq, c3, madeV_eq, ext_0, ext_1, st_Z]
  exact finish_ct _ _ 6 6 1 _ _ _ _ _ _ _ (by simp only [zfa, ↓reduceIte, Nat.reduceEqDiff]) (by simp only [zfa, ↓reduceIte, Nat.reduceEqDiff]) (by simp only [zfa, ↓reduceIte, Nat.reduceEqDiff]) rfl
end
set_option maxHeartbeats 4000000 in
theorem oneB_eq (n d : Nat) (op : Int) {w w' : AV} {z z' : Int} (hw : IsN w z) (hw' : IsN w' z') (r : Int) (b : Bool) (ho : evalFn Tryd.prog cfg0 n d 14 [.tree (.int .i64 op), .tree w, .tree w'] = some (.tree (.tup [encZ r, .bool b]), [[], [], []])) : evalFn Tryd.prog cfg0 n (d+1) 13 [.tree (.int .i64 op), .tree w, .tree w'] = some (.tree (encZ r), [[], [], []]) := by
  obtain ⟨neg, g0, l, rfl, hl, hz⟩ := hw
  obtain ⟨neg', g0', l', rfl, hl', hz'⟩ := hw'
  rw [evalFn_go _ Tryd.func13 (by unfold Tryd.f13; rfl) (by unfold Tryd.f13; decide) (Nat.le_of_ble_eq_true (by unfold Tryd.f13; rfl)) (by kernel_rfl)]
  have c := fun D s => callA_trees (cfg := cfg0) (d := D) (s := s) (vs := [.int .i64 op, encA neg g0 l, encA neg' g0' l']) rfl ho
  simp only [zaa, zab, zac, zad, zae, zaf, zag, zah, zai, zaj, zak, zal, zam, zan, zao, zap, zaq, zar, zas, zat, zau, zav, zaw, zax, zay, zaz, zba, zbb, zbc, zbd, zbe, zbf, zbg, zbh, zbi, zbj, Nat.reduceBEq, Bool.or_self, Bool.or_false, Bool.or_true, Bool.and_true, Bool.and_false, Bool.true_and, Bool.false_and, Option.isNone_none, Option.isNone_some, Option.isSome_some, Option.isSome_none, zbk, zbl, zbm, zbn, zbo, zbp, zbq, zbr, zbs, zbt, zbu, zbv, zbw, zbx, zby, zbz, zca, zcb, zcc, zcd, zce, zcf, zcg, zch, zci, zcj, zck, zcl, zcm, zcn, zco, zcp, zcq, zcr, zcs, zct, zcu, zcv, zcw, zcx, zcy, zcz, zda, zdb, zdc, zdd, zde, zdf, Option.getD_some, Option.getD_none, zet, zeu, zev, zew, zex, zey, zez, zfa, Option.map_some, Option.map_none, Option.bind_some, List.map_cons, List.map_nil, List.cons_append, List.nil_append, ↓reduceIte, Nat.reduceEqDiff, Nat.reduceAdd, decide_true, decide_false, Bool.true_eq_false, Bool.false_eq_true, env0, List.getElem?_cons_zero, List.getElem?_cons_succ, zdg, zdh, zdi, zdj, zdk, zdl, zdm, zdn, ia22, ld31, zdo, zdp, zdq, zdr, zds, zdt, zdu, zdv, zdw, zdx, zdy, zdz, zea, zeb, zec, fa_0, fa_1, zed, bd_0, bd_2, zee, fd_1, zef, Nat.zero_add, st0_3', c, ext_0, ext_1, st_Z]
  exact finish_c _ _ 6 6 1 _ _ _ _ _ (by simp only [zfa, ↓reduceIte, Nat.reduceEqDiff]) (by simp only [zfa, ↓reduceIte, Nat.reduceEqDiff]) rfl
set_option maxHeartbeats 4000000 in
theorem oneL_eq (n d : Nat) (op : Int) {w w' : AV} {z z' : Int} (hw : IsN w z) (hw' : IsN w' z') (r : Int) (b : Bool) (ho : evalFn Tryd.prog cfg0 n d 14 [.tree (.int .i64 op), .tree w, .tree w'] = some (.tree (.tup [encZ r, .bool b]), [[], [], []])) : evalFn Tryd.prog cfg0 n (d+1) 31 [.tree (.int .i64 op), .tree w, .tree w'] = some (.tree (encZ r), [[], [], []]) := by
  obtain ⟨neg, g0, l, rfl, hl, hz⟩ := hw
  obtain ⟨neg', g0', l', rfl, hl', hz'⟩ := hw'
  rw [evalFn_go _ Tryd.func31 (by unfold Tryd.f31; rfl) (by unfold Tryd.f31; decide) (Nat.le_of_ble_eq_true (by unfold Tryd.f31; rfl)) (by kernel_rfl)]
  have c := fun D s => callA_trees (cfg := cfg0) (d := D) (s := s) (vs := [.int .i64 op, encA neg g0 l, encA neg' g0' l']) rfl ho
  simp only [zaa, zab, zac, zad, zae, zaf, zag, zah, zai, zaj, zak, zal, zam, zan, zao, zap, zaq, zar, zas, zat, zau, zav, zaw, zax, zay, zaz, zba, zbb, zbc, zbd, zbe, zbf, zbg, zbh, zbi, zbj, Nat.reduceBEq, Bool.or_self, Bool.or_false, Bool.or_true, Bool.and_true, Bool.and_false, Bool.true_and, Bool.false_and, Option.isNone_none, Option.isNone_some, Option.isSome_some, Option.isSome_none, zbk, zbl, zbm, zbn, zbo, zbp, zbq, zbr, zbs, zbt, zbu, zbv, zbw, zbx, zby, zbz, zca, zcb, zcc, zcd, zce, zcf, zcg, zch, zci, zcj, zck, zcl, zcm, zcn, zco, zcp, zcq, zcr, zcs, zct, zcu, zcv, zcw, zcx, zcy, zcz, zda, zdb, zdc, zdd, zde, zdf, Option.getD_some, Option.getD_none, zet, zeu, zev, zew, zex, zey, zez, zfa, Option.map_some, Option.map_none, Option.bind_some, List.map_cons, List.map_nil, List.cons_append, List.nil_append, ↓reduceIte, Nat.reduceEqDiff, Nat.reduceAdd, decide_true, decide_false, Bool.true_eq_false, Bool.false_eq_true, env0, List.getElem?_cons_zero, List.getElem?_cons_succ, zdg, zdh, zdi, zdj, zdk, zdl, zdm, zdn, ia22, ld31, zdo, zdp, zdq, zdr, zds, zdt, zdu, zdv, zdw, zdx, zdy, zdz, zea, zeb, zec, fa_0, fa_1, zed, bd_0, bd_2, zee, fd_1, zef, Nat.zero_add, st0_3', c, ext_0, ext_1, st_Z]
  exact finish_c _ _ 6 6 1 _ _ _ _ _ (by simp only [zfa, ↓reduceIte, Nat.reduceEqDiff]) (by simp only [zfa, ↓reduceIte, Nat.reduceEqDiff]) rfl
end Go.Ab
