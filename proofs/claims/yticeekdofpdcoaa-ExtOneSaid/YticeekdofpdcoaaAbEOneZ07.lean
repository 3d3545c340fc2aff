/- Several texts put together: AbeY25, AbeY26, AbeY27, AbeY28, AbeY29, AbeY30, AbeY31, AbeY32, AbeY33, AbeY34, AbeY35, AbeY36, AbeY37, AbeY38, AbeY39, AbeY40, AbeLawEOne. Conditions: as each part says. -/
import Derived.Test.YticeekdofpdcoaaAbEOneZ06
import Derived.Test.YticeekdofpdcoaaAbEOneZ04
import Derived.Test.YticeekdofpdcoaaAbEOneZ05
/- A term, read (CFG5). Conditions: places in range; what ext.big answers, where there is a great number. -/
namespace Go.Ab
open Go.Proofs
set_option maxRecDepth 100000
set_option linter.unusedSimpArgs false

theorem bdT_tupY (us : List T) : buildA Try.prog 28 [(0, .int .i64 5), (4, .sl (cellsK us) us.length (gr (kgOf us)))] = some (.agg (cellsT (tupT (kgOf us) us))) := by
  simp only [buildA, zeroT, tkT, plT, Option.bind_some]
  unfold kgOf
  split
  · rename_i h; subst h; rfl
  · rfl
theorem take1 {bs : List UInt8} {i : Nat} (h : i + 1 ≤ bs.length) : ∃ c, (bs.drop i).take 1 = [c] ∧ c ∈ bs := by
  have hd : bs.drop i = bs[i] :: bs.drop (i + 1) := List.drop_eq_getElem_cons (by omega)
  exact ⟨bs[i], by rw [hd]; rfl, List.getElem_mem _⟩
def tagR (bs : List UInt8) (f : Nat) (deep : Int) (s1 : RS) (tag fr : Nat) : T × RS :=
  if s1.tm > 2000 ∨ deep > 60 then (T0, s1.fail 4)
  else if tag = 97 ∨ tag = 98 ∨ tag = 110 ∨ tag = 119 ∨ tag = 109 ∨ tag = 106 then plainR bs s1 tag fr
  else if tag = 108 then listR bs (termR bs f (deep + 1)) (termR bs f deep) s1
  else if tag = 104 then
    let h := someR (termR bs f (deep + 1)) (manyR bs s1 1 0 40).1.toNat (manyR bs s1 1 0 40).2 []
    (tupT (kgOf h.1) h.1, h.2)
  else (T0, s1.fail 4)
theorem termR_step {bs : List UInt8} {s : RS} (hs : InvR bs s) (he : (takeR bs s 1).2.e = 0) (f : Nat) (deep : Int) {c : UInt8} (hc : (bs.drop s.i).take 1 = [c]) : termR bs (f + 1) deep s = tagR bs f deep ⟨s.i + 1, s.tm + 1, 0⟩ c.toNat s.i := by
  obtain ⟨h2, h3, h4, h5⟩ := stepR hs he
  simp only [termR]
  rw [if_neg (fun hh => hh he), h2, h5, hc]
  rfl
set_option maxHeartbeats 4000000 in
theorem term_step (n : Nat) (hn : 2200 ≤ n) (bs : List UInt8) (g : Grip) (f E : Nat) (hE : 6020 ≤ E) (deep : Int) (h0 : 0 ≤ deep) (h1 : deep ≤ 100) (lo : Nat) (s : RS) (hs : InvR bs s)
    (hbig : s.e = 0 → (bs.drop s.i).take 1 = [110] → ∀ D, 6000 ≤ D → BigOk n D) (hl8 : s.e = 0 → (bs.drop s.i).take 1 = [108] → lo ≤ s.i + 5) (hl4 : s.e = 0 → (bs.drop s.i).take 1 = [104] → lo ≤ s.i + 2)
    (IH1 : deep ≤ 60 → TermW n (E+1) bs g (deep+1) (termR bs f (deep+1)) lo) (IH2 : TermW n (E+2) bs g deep (termR bs f deep) lo) (IH3 : deep ≤ 60 → TermW n (E+2) bs g (deep+1) (termR bs f (deep+1)) lo) :
    evalFn Try.prog cfg5 n (E+1+3) 31 [.ptr (rC bs g s) 0, .tree (.int .i64 deep)] = some (.tree (encT (termR bs (f+1) deep s).1), [rC bs g (termR bs (f+1) deep s).2, []]) := by
  rw [evalFn_go _ Try.func31 (by unfold Try.f31; rfl) (by unfold Try.f31; decide) (Nat.le_of_ble_eq_true (by unfold Try.f31; rfl)) (by kernel_rfl)]
  have e0 : env0 [.ptr (rC bs g s) 0, .tree (.int .i64 deep)] 0 = .ptr 0 0 0 := rfl
  have e1 : env0 [.ptr (rC bs g s) 0, .tree (.int .i64 deep)] 1 = .int .i64 deep := rfl
  have j0 : st0 [.ptr (rC bs g s) 0, .tree (.int .i64 deep)] 0 = ⟨0, .buf (rC bs g s)⟩ := rfl
  have j4 : (st0 [.ptr (rC bs g s) 0, .tree (.int .i64 deep)] 4).t = 0 := rfl
  have ho : ∀ s' ys, s' 0 = ⟨0, .buf ys⟩ → outsA s' 0 [.ptr (rC bs g s) 0, .tree (.int .i64 deep)] = some [ys, []] := fun s' ys h => outs_ptr s' (rC bs g s) ys h [.int .i64 deep]
  generalize [Arg.ptr (rC bs g s) 0, .tree (.int .i64 deep)] = as1 at e0 e1 j0 j4 ho
  generalize env0 as1 = env at e0 e1
  generalize st0 as1 = st at j0 j4
  have ct := fun D' (st : St) (hp : st 0 = ⟨0, .buf (rC bs g s)⟩) => callA_ptr (call := evalFn Try.prog cfg5 n (E+1+2)) [.int .i64 1] rfl (take_eq n (E+1) bs g s 1 hs.okR (by decide)) D' hp
  have st0T := fun s p k' => st_Tt s p k' T0
  have s60T := fun t k' p st => stT_6 t k' p st (.int .i64 0) (.bool false) (.sl [] 0 .nil) (.str []) (.int .i64 0) (.sl [] 0 .nil) T0
  by_cases he : (takeR bs s 1).2.e = 0
  · obtain ⟨h2, h3, h4, h5⟩ := stepR hs he
    obtain ⟨c, hc, hcm⟩ := take1 h4
    rw [termR_step hs he f deep hc]
    rw [hc] at h5
    rw [h2, h5] at ct
    simp only [takeV] at ct
    have htm := hs.ok h3
    have hs1 : InvR bs ⟨s.i + 1, s.tm + 1, 0⟩ ∨ s.tm + 1 > 2000 := by
      by_cases hb : s.tm + 1 > 2000
      · exact .inr hb
      · exact .inl ⟨h4, hs.len, by dsimp only; omega, by dsimp only; omega, fun _ => by dsimp only; omega⟩
    have f1 := i_add Try.prog 3 s.tm 1 (by omega) (by omega)
    have ia : ∀ st, indexAddrA Try.prog 22 st (.sl (cellsOfBytes [c]) [c].length .tight) (.int .i64 0) = some (.rptr (cellsOfBytes [c])) := fun st => iaB st [c] .tight 0 (by simp)
    have ld := fun st => ldB st c []
    have cf := fun D' (st : St) (hp : st 0 = ⟨0, .buf (rC bs g ⟨s.i + 1, s.tm + 1, 0⟩)⟩) => callA_ptr (call := evalFn Try.prog cfg5 n (E+1+2)) [.int .i64 4] rfl (efail_eq n (E+2) bs g ⟨s.i + 1, s.tm + 1, 0⟩ 4) D' hp
    have hfl : (RS.fail ⟨s.i + 1, s.tm + 1, 0⟩ 4) = ⟨s.i + 1, s.tm + 1, 4⟩ := rfl
    rw [hfl] at cf
    obtain ⟨i, tm, e⟩ := s
    dsimp only at h3 htm hs1 f1 cf h4 hbig hl8 hl4 hc
    subst h3
    unfold tagR
    dsimp only
    have b0 : ((0 : Int) != 0) = false := rfl
    by_cases hbad : tm + 1 > 2000 ∨ deep > 60
    · rw [if_pos hbad, hfl]
      simp only [rC] at j0 ct cf ⊢
      by_cases hb1 : tm + 1 > 2000
      · simp only [simB, keep5, Nat.reduceBEq, own5, String.reduceAppend, String.reduceBEq, Bool.or_false, Bool.or_true, Bool.or_self, ↓reduceIte, Nat.reduceEqDiff, Nat.reduceAdd, simA, simL, simN, Nat.zero_add, e0, e1, j0, j4, zeroT, opA_nck, nckA_p, fa59_1, fa59_2, fa59_3, ld59_1, ld59_2, ld59_3, y_neq, y_gtr, b0, ct, f1, ia, ld, cf, st_iY, stY_2, hb1, bdY_00, st0T, s60T]
        exact finish_cY _ _ _ 4 4 1 T0 _ _ (by simp only [zfk, ↓reduceIte, Nat.reduceEqDiff]; try rfl) (by simp only [zfk, ↓reduceIte, Nat.reduceEqDiff]; try rfl) (ho _ _ (by simp only [zfk, ↓reduceIte, Nat.reduceEqDiff]; try rfl))
      · have hb2 : deep > 60 := hbad.resolve_left hb1
        simp only [simB, keep5, Nat.reduceBEq, own5, String.reduceAppend, String.reduceBEq, Bool.or_false, Bool.or_true, Bool.or_self, ↓reduceIte, Nat.reduceEqDiff, Nat.reduceAdd, simA, simL, simN, Nat.zero_add, e0, e1, j0, j4, zeroT, opA_nck, nckA_p, fa59_1, fa59_2, fa59_3, ld59_1, ld59_2, ld59_3, y_neq, y_gtr, b0, ct, f1, ia, ld, cf, st_iY, stY_2, hb1, hb2, bdY_00, st0T, s60T]
        exact finish_cY _ _ _ 4 4 1 T0 _ _ (by simp only [zfk, ↓reduceIte, Nat.reduceEqDiff]; try rfl) (by simp only [zfk, ↓reduceIte, Nat.reduceEqDiff]; try rfl) (ho _ _ (by simp only [zfk, ↓reduceIte, Nat.reduceEqDiff]; try rfl))
    · rw [if_neg hbad]
      have hb1 : ¬ tm + 1 > 2000 := fun h => hbad (.inl h)
      have hb2 : ¬ deep > 60 := fun h => hbad (.inr h)
      have hs2 : InvR bs ⟨i + 1, tm + 1, 0⟩ := hs1.resolve_right hb1
      generalize htag : c.toNat = tag at ld ⊢
      by_cases hpl : tag = 97 ∨ tag = 98 ∨ tag = 110 ∨ tag = 119 ∨ tag = 109 ∨ tag = 106
      · rw [if_pos hpl]
        have cp := fun D' (st : St) (hp : st 0 = ⟨0, .buf (rC bs g ⟨i + 1, tm + 1, 0⟩)⟩) => callA_ptr (call := evalFn Try.prog cfg5 n (E+1+2)) [.int .u8 (tag : Int), .int .i64 (i : Int)] rfl (plain_eq n (E+1) hn (by omega) bs g ⟨i + 1, tm + 1, 0⟩ hs2.okR rfl i (Nat.lt_succ_self i) tag hpl (fun h110 => hbig rfl (by
          have : c = 110 := by
            apply UInt8.toNat_inj.1
            rw [htag, h110]; rfl
          rw [hc, this]) _ (by omega))) D' hp
        obtain ⟨w, hw⟩ : ∃ w, plainR bs ⟨i + 1, tm + 1, 0⟩ tag i = w := ⟨_, rfl⟩
        rw [hw] at cp
        rw [hw]
        obtain ⟨u, r⟩ := w
        dsimp only at cp ⊢
        simp only [encT] at cp
        have stu := fun s p k' => st_Tt s p k' u
        have s6u := fun t k' p st => stT_6 t k' p st (.int .i64 0) (.bool false) (.sl [] 0 .nil) (.str []) (.int .i64 0) (.sl [] 0 .nil) u
        simp only [rC] at j0 ct cp ⊢
        have hch : (tag == 97) = true ∨ ((tag == 97) = false ∧ (tag == 98) = true) ∨ ((tag == 97) = false ∧ (tag == 98) = false ∧ (tag == 110) = true) ∨ ((tag == 97) = false ∧ (tag == 98) = false ∧ (tag == 110) = false ∧ (tag == 119) = true) ∨ ((tag == 97) = false ∧ (tag == 98) = false ∧ (tag == 110) = false ∧ (tag == 119) = false ∧ (tag == 109) = true) ∨ ((tag == 97) = false ∧ (tag == 98) = false ∧ (tag == 110) = false ∧ (tag == 119) = false ∧ (tag == 109) = false ∧ (tag == 106) = true) := by
          rcases hpl with rfl | rfl | rfl | rfl | rfl | rfl <;> decide
        have hz : ∀ m : Nat, ((tag : Int) == (m : Int)) = (tag == m) := fun m => by
          rw [Bool.eq_iff_iff, beq_iff_eq, beq_iff_eq]; omega
        have z1 := hz 97; have z2 := hz 98; have z3 := hz 110; have z4 := hz 119; have z5 := hz 109; have z6 := hz 106
        simp only [Int.cast_ofNat_Int] at z1 z2 z3 z4 z5 z6
        rcases hch with q1 | ⟨q1, q2⟩ | ⟨q1, q2, q3⟩ | ⟨q1, q2, q3, q4⟩ | ⟨q1, q2, q3, q4, q5⟩ | ⟨q1, q2, q3, q4, q5, q6⟩
        all_goals
          simp only [simB, keep5, Nat.reduceBEq, own5, String.reduceAppend, String.reduceBEq, Bool.or_false, Bool.or_true, Bool.or_self, ↓reduceIte, Nat.reduceEqDiff, Nat.reduceAdd, simA, simL, simN, Nat.zero_add, e0, e1, j0, j4, zeroT, opA_nck, nckA_p, fa59_1, fa59_2, fa59_3, ld59_1, ld59_2, ld59_3, y_neq, y_gtr, y_eql8, b0, ct, f1, ia, ld, st_iY, stY_2, hb1, hb2, z1, z2, z3, z4, z5, z6, *, cp, stu, s6u]
          exact finish_cY _ _ _ 4 4 1 u _ _ (by simp only [zfk, ↓reduceIte, Nat.reduceEqDiff]; try rfl) (by simp only [zfk, ↓reduceIte, Nat.reduceEqDiff]; try rfl) (ho _ _ (by simp only [zfk, ↓reduceIte, Nat.reduceEqDiff]; try rfl))
      · rw [if_neg hpl]
        have hz : ∀ m : Nat, ((tag : Int) == (m : Int)) = (tag == m) := fun m => by
          rw [Bool.eq_iff_iff, beq_iff_eq, beq_iff_eq]; omega
        have z1 := hz 97; have z2 := hz 98; have z3 := hz 110; have z4 := hz 119; have z5 := hz 109; have z6 := hz 106
        have z7 := hz 108; have z8 := hz 104
        simp only [Int.cast_ofNat_Int] at z1 z2 z3 z4 z5 z6 z7 z8
        have q1 : (tag == 97) = false := beq_eq_false_iff_ne.mpr (fun h => hpl (.inl h))
        have q2 : (tag == 98) = false := beq_eq_false_iff_ne.mpr (fun h => hpl (.inr (.inl h)))
        have q3 : (tag == 110) = false := beq_eq_false_iff_ne.mpr (fun h => hpl (.inr (.inr (.inl h))))
        have q4 : (tag == 119) = false := beq_eq_false_iff_ne.mpr (fun h => hpl (.inr (.inr (.inr (.inl h)))))
        have q5 : (tag == 109) = false := beq_eq_false_iff_ne.mpr (fun h => hpl (.inr (.inr (.inr (.inr (.inl h))))))
        have q6 : (tag == 106) = false := beq_eq_false_iff_ne.mpr (fun h => hpl (.inr (.inr (.inr (.inr (.inr h))))))
        clear hz hpl hcm hbig
        by_cases h108 : tag = 108
        · rw [if_pos h108]
          have q7 : (tag == 108) = true := by rw [h108]; rfl
          have cl := fun D' (st : St) (hp : st 0 = ⟨0, .buf (rC bs g ⟨i + 1, tm + 1, 0⟩)⟩) => callA_ptr (call := evalFn Try.prog cfg5 n (E+1+2)) [.int .i64 deep] rfl (rlist_eq n (E+1) hn (by omega) bs g deep ⟨by omega, by omega⟩ (termR bs f (deep + 1)) (termR bs f deep) lo (IH1 (by omega)) IH2 (fun s hs => termR_inv bs f (deep + 1) s hs) (fun s h => termR_e h) ⟨i + 1, tm + 1, 0⟩ hs2 (by dsimp only; omega) (by have := hl8 rfl (by rw [hc]; congr 1; apply UInt8.toNat_inj.1; rw [htag, h108]; rfl); dsimp only at this ⊢; omega)) D' hp
          obtain ⟨w, hw⟩ : ∃ w, listR bs (termR bs f (deep + 1)) (termR bs f deep) ⟨i + 1, tm + 1, 0⟩ = w := ⟨_, rfl⟩
          rw [hw] at cl
          rw [hw]
          obtain ⟨u, r⟩ := w
          dsimp only at cl ⊢
          simp only [encT] at cl
          have stu := fun s p k' => st_Tt s p k' u
          have s6u := fun t k' p st => stT_6 t k' p st (.int .i64 0) (.bool false) (.sl [] 0 .nil) (.str []) (.int .i64 0) (.sl [] 0 .nil) u
          simp only [rC] at j0 ct cl ⊢
          simp only [simB, keep5, Nat.reduceBEq, own5, String.reduceAppend, String.reduceBEq, Bool.or_false, Bool.or_true, Bool.or_self, ↓reduceIte, Nat.reduceEqDiff, Nat.reduceAdd, simA, simL, simN, Nat.zero_add, e0, e1, j0, j4, zeroT, opA_nck, nckA_p, fa59_1, fa59_2, fa59_3, ld59_1, ld59_2, ld59_3, y_neq, y_gtr, y_eql8, b0, ct, f1, ia, ld, st_iY, stY_2, hb1, hb2, z1, z2, z3, z4, z5, z6, z7, z8, q1, q2, q3, q4, q5, q6, q7, cl, stu, s6u]
          exact finish_cY _ _ _ 4 4 1 u _ _ (by simp only [zfk, ↓reduceIte, Nat.reduceEqDiff]; try rfl) (by simp only [zfk, ↓reduceIte, Nat.reduceEqDiff]; try rfl) (ho _ _ (by simp only [zfk, ↓reduceIte, Nat.reduceEqDiff]; try rfl))
        · rw [if_neg h108]
          have q7 : (tag == 108) = false := beq_eq_false_iff_ne.mpr h108
          by_cases h104 : tag = 104
          · rw [if_pos h104]
            have q8 : (tag == 104) = true := by rw [h104]; rfl
            have hmr := manyR_range (bs := bs) (s := ⟨i + 1, tm + 1, 0⟩) (k := 1) (a := 0) (b := 40) (by decide) (by decide)
            have hpo := fun h => manyR_pos (bs := bs) (s := ⟨i + 1, tm + 1, 0⟩) (k := 1) (a := 0) (b := 40) h
            have hmi := hs2.many (k := 1) (a := 0) (b := 40)
            have cm := fun D' (st : St) (hp : st 0 = ⟨0, .buf (rC bs g ⟨i + 1, tm + 1, 0⟩)⟩) => callA_ptr (call := evalFn Try.prog cfg5 n (E+1+2)) [.int .i64 1, .int .i64 0, .int .i64 40] rfl (many_eq n E (by omega) bs g ⟨i + 1, tm + 1, 0⟩ 1 0 40 hs2.okR (by decide)) D' hp
            obtain ⟨m, hm⟩ : ∃ m, manyR bs ⟨i + 1, tm + 1, 0⟩ 1 0 40 = m := ⟨_, rfl⟩
            rw [hm] at cm hmr hmi hpo
            rw [hm]
            obtain ⟨v, mr⟩ := m
            dsimp only at cm hmr hmi hpo ⊢
            obtain ⟨k, rfl⟩ : ∃ k : Nat, v = k := ⟨v.toNat, by omega⟩
            rw [Int.toNat_natCast]
            have csq := some_eq n (E+2) bs g (deep + 1) (termR bs f (deep + 1)) lo (IH3 (by omega)) (fun s hs => termR_inv bs f (deep + 1) s hs) (fun s h => termR_e h) k (by omega) (by omega) mr hmi (fun h => by have := hl4 rfl (by rw [hc]; congr 1; apply UInt8.toNat_inj.1; rw [htag, h104]; rfl); have h2 := (hpo h).2; (try dsimp only at this h2 ⊢); omega)
            have cs := fun D' (st : St) (hp : st 0 = ⟨0, .buf (rC bs g mr)⟩) => callA_ptr (call := evalFn Try.prog cfg5 n (E+1+2)) [.int .i64 (k : Int), .int .i64 (deep + 1)] rfl csq D' hp
            obtain ⟨w, hw⟩ : ∃ w, someR (termR bs f (deep + 1)) k mr [] = w := ⟨_, rfl⟩
            rw [hw] at cs
            rw [hw]
            obtain ⟨us, r⟩ := w
            dsimp only at cs ⊢
            have f4 := i_add Try.prog 3 deep 1 (by omega) (by omega)
            have bu := bdT_tupY us
            have stu := fun s p k' => st_Tt s p k' (tupT (kgOf us) us)
            have s6u := fun t k' p st => stT_6 t k' p st (.int .i64 0) (.bool false) (.sl [] 0 .nil) (.str []) (.int .i64 0) (.sl [] 0 .nil) (tupT (kgOf us) us)
            simp only [rC] at j0 ct cm cs ⊢
            simp only [simB, keep5, Nat.reduceBEq, own5, String.reduceAppend, String.reduceBEq, Bool.or_false, Bool.or_true, Bool.or_self, ↓reduceIte, Nat.reduceEqDiff, Nat.reduceAdd, simA, simL, simN, Nat.zero_add, e0, e1, j0, j4, zeroT, opA_nck, nckA_p, fa59_1, fa59_2, fa59_3, ld59_1, ld59_2, ld59_3, y_neq, y_gtr, y_eql8, b0, ct, cm, cs, f1, f4, ia, ld, st_iY, stY_2, hb1, hb2, z1, z2, z3, z4, z5, z6, z7, z8, q1, q2, q3, q4, q5, q6, q7, q8, stu, s6u, bu]
            exact finish_cY _ _ _ 4 4 1 (tupT (kgOf us) us) _ _ (by simp only [zfk, ↓reduceIte, Nat.reduceEqDiff]; try rfl) (by simp only [zfk, ↓reduceIte, Nat.reduceEqDiff]; try rfl) (ho _ _ (by simp only [zfk, ↓reduceIte, Nat.reduceEqDiff]; try rfl))
          · rw [if_neg h104]
            have q8 : (tag == 104) = false := beq_eq_false_iff_ne.mpr h104
            rw [hfl]
            simp only [rC] at j0 ct cf ⊢
            simp only [simB, keep5, Nat.reduceBEq, own5, String.reduceAppend, String.reduceBEq, Bool.or_false, Bool.or_true, Bool.or_self, ↓reduceIte, Nat.reduceEqDiff, Nat.reduceAdd, simA, simL, simN, Nat.zero_add, e0, e1, j0, j4, zeroT, opA_nck, nckA_p, fa59_1, fa59_2, fa59_3, ld59_1, ld59_2, ld59_3, y_neq, y_gtr, y_eql8, b0, ct, cf, f1, ia, ld, st_iY, stY_2, hb1, hb2, z1, z2, z3, z4, z5, z6, z7, z8, q1, q2, q3, q4, q5, q6, q7, q8, st0T, s60T, bdY_00]
            exact finish_cY _ _ _ 4 4 1 T0 _ _ (by simp only [zfk, ↓reduceIte, Nat.reduceEqDiff]; try rfl) (by simp only [zfk, ↓reduceIte, Nat.reduceEqDiff]; try rfl) (ho _ _ (by simp only [zfk, ↓reduceIte, Nat.reduceEqDiff]; try rfl))
  · simp only [termR]
    rw [if_pos he]
    obtain ⟨w, hw⟩ : ∃ w, takeR bs s 1 = w := ⟨_, rfl⟩
    rw [hw] at ct he
    rw [hw]
    obtain ⟨o, r⟩ := w
    obtain ⟨ri, rtm, re⟩ := r
    dsimp only at ct he ⊢
    have b0 : (re != 0) = true := by simpa using he
    simp only [rC] at j0 ct ⊢
    simp only [simB, keep5, Nat.reduceBEq, own5, String.reduceAppend, String.reduceBEq, Bool.or_false, Bool.or_true, Bool.or_self, ↓reduceIte, Nat.reduceEqDiff, Nat.reduceAdd, simA, simL, simN, Nat.zero_add, e0, e1, j0, j4, zeroT, opA_nck, nckA_p, fa59_1, fa59_2, fa59_3, ld59_1, ld59_2, ld59_3, y_neq, b0, ct, st_iY, stY_2, bdY_00, st0T, s60T]
    exact finish_cY _ _ _ 4 4 1 T0 _ _ (by simp only [zfk, ↓reduceIte, Nat.reduceEqDiff]; try rfl) (by simp only [zfk, ↓reduceIte, Nat.reduceEqDiff]; try rfl) (ho _ _ (by simp only [zfk, ↓reduceIte, Nat.reduceEqDiff]; try rfl))
theorem termR_0 {bs : List UInt8} {s : RS} (hs : s.e ≠ 0) (deep : Int) : termR bs 1 deep s = termR bs 0 deep s := by
  have h1 : takeR bs s 1 = (none, s) := by
    unfold takeR
    rw [if_pos (.inl hs)]
    unfold RS.fail
    rw [if_neg hs]
  simp only [termR]
  rw [h1]
  dsimp only
  rw [if_pos hs]
set_option maxHeartbeats 4000000 in
theorem term_no (n E : Nat) (bs : List UInt8) (g : Grip) (f : Nat) (deep : Int) (s : RS) (hs : InvR bs s) (he : (takeR bs s 1).2.e ≠ 0) :
    evalFn Try.prog cfg5 n (E+1+3) 31 [.ptr (rC bs g s) 0, .tree (.int .i64 deep)] = some (.tree (encT (termR bs (f+1) deep s).1), [rC bs g (termR bs (f+1) deep s).2, []]) := by
  rw [evalFn_go _ Try.func31 (by unfold Try.f31; rfl) (by unfold Try.f31; decide) (Nat.le_of_ble_eq_true (by unfold Try.f31; rfl)) (by kernel_rfl)]
  have e0 : env0 [.ptr (rC bs g s) 0, .tree (.int .i64 deep)] 0 = .ptr 0 0 0 := rfl
  have e1 : env0 [.ptr (rC bs g s) 0, .tree (.int .i64 deep)] 1 = .int .i64 deep := rfl
  have j0 : st0 [.ptr (rC bs g s) 0, .tree (.int .i64 deep)] 0 = ⟨0, .buf (rC bs g s)⟩ := rfl
  have j4 : (st0 [.ptr (rC bs g s) 0, .tree (.int .i64 deep)] 4).t = 0 := rfl
  have ho : ∀ s' ys, s' 0 = ⟨0, .buf ys⟩ → outsA s' 0 [.ptr (rC bs g s) 0, .tree (.int .i64 deep)] = some [ys, []] := fun s' ys h => outs_ptr s' (rC bs g s) ys h [.int .i64 deep]
  generalize [Arg.ptr (rC bs g s) 0, .tree (.int .i64 deep)] = as1 at e0 e1 j0 j4 ho
  generalize env0 as1 = env at e0 e1
  generalize st0 as1 = st at j0 j4
  have ct := fun D' (st : St) (hp : st 0 = ⟨0, .buf (rC bs g s)⟩) => callA_ptr (call := evalFn Try.prog cfg5 n (E+1+2)) [.int .i64 1] rfl (take_eq n (E+1) bs g s 1 hs.okR (by decide)) D' hp
  have st0T := fun s p k' => st_Tt s p k' T0
  have s60T := fun t k' p st => stT_6 t k' p st (.int .i64 0) (.bool false) (.sl [] 0 .nil) (.str []) (.int .i64 0) (.sl [] 0 .nil) T0
  simp only [termR]
  rw [if_pos he]
  obtain ⟨w, hw⟩ : ∃ w, takeR bs s 1 = w := ⟨_, rfl⟩
  rw [hw] at ct he
  rw [hw]
  obtain ⟨o, r⟩ := w
  obtain ⟨ri, rtm, re⟩ := r
  dsimp only at ct he ⊢
  have b0 : (re != 0) = true := by simpa using he
  simp only [rC] at j0 ct ⊢
  simp only [simB, keep5, Nat.reduceBEq, own5, String.reduceAppend, String.reduceBEq, Bool.or_false, Bool.or_true, Bool.or_self, ↓reduceIte, Nat.reduceEqDiff, Nat.reduceAdd, simA, simL, simN, Nat.zero_add, e0, e1, j0, j4, zeroT, opA_nck, nckA_p, fa59_1, fa59_2, fa59_3, ld59_1, ld59_2, ld59_3, y_neq, b0, ct, st_iY, stY_2, bdY_00, st0T, s60T]
  exact finish_cY _ _ _ 4 4 1 T0 _ _ (by simp only [zfk, ↓reduceIte, Nat.reduceEqDiff]; try rfl) (by simp only [zfk, ↓reduceIte, Nat.reduceEqDiff]; try rfl) (ho _ _ (by simp only [zfk, ↓reduceIte, Nat.reduceEqDiff]; try rfl))
theorem term_eq (n : Nat) (hn : 2200 ≤ n) (bs : List UInt8) (g : Grip) : ∀ (f D : Nat) (deep : Int) (lo : Nat), bs.length < lo + f → 3 * f + 6030 ≤ D → 0 ≤ deep → deep ≤ 100 → (∀ i, lo ≤ i → (bs.drop i).take 1 = [110] → ∀ D, 6000 ≤ D → BigOk n D) → TermW n D bs g deep (termR bs f deep) lo
  | 0, D, deep, lo, hf, hD, h0, h1, hbig => fun s hs hlo => by
    have he : s.e ≠ 0 := fun h => by have := hlo h; have := hs.i; omega
    obtain ⟨E, rfl⟩ : ∃ E, D = E + 1 + 3 := ⟨D - 4, by omega⟩
    rw [← termR_0 he]
    exact term_no n E bs g 0 deep s hs (fun h => he (takeR_e h).1)
  | f + 1, D, deep, lo, hf, hD, h0, h1, hbig => fun s hs hlo => by
    obtain ⟨E, rfl⟩ : ∃ E, D = E + 1 + 3 := ⟨D - 4, by omega⟩
    have IH := fun D' (deep' : Int) (hD' : 3 * f + 6030 ≤ D') (h0' : 0 ≤ deep') (h1' : deep' ≤ 100) => term_eq n hn bs g f D' deep' (lo + 1) (by omega) hD' h0' h1' (fun i hi => hbig i (by omega))
    exact term_step n hn bs g f E (by omega) deep h0 h1 (lo + 1) s hs (fun h => hbig s.i (hlo h)) (fun h _ => by have := hlo h; omega) (fun h _ => by have := hlo h; omega) (fun h => IH (E+1) (deep+1) (by omega) (by omega) (by omega)) (IH (E+2) deep (by omega) h0 h1) (fun h => IH (E+2) (deep+1) (by omega) (by omega) (by omega))
end Go.Ab

/- ext.Get (CFG5). Conditions: places in range; what ext.big answers, where there is a great number. -/
namespace Go.Ab
open Go.Proofs
set_option maxRecDepth 100000
set_option linter.unusedSimpArgs false

def gotoG (t : Nat) (env : Env) (x : Option Out) : Option Out := if gotoOk env t = true then x else none
theorem den_gotoG {P : Program} {cfg : Cfg} {call : FuncId → List Arg → Option Out} {n : Nat} (t : Nat) (K : Kont) (env : Env) (s : St) : den P cfg call n (.goto t) K env s = gotoG t env (K .normal env s) := by
  simp only [den, gotoG]
theorem gotoG_r (a b t : Nat) (ht : t = (a + 1) * 1048576 + b) (ha : a < 1048575) (hb : b < 1048576) (env : Env) (x : Option Out) {p k o q k' o' : Nat} (h1 : env a = .ptr p k o) (h2 : env b = .ptr q k' o') (h : p ≠ q) : gotoG t env x = x := by
  have e1 : ¬ t < 1048576 := by omega
  have e2 : t < 1099511627776 := by omega
  have e3 : t / 1048576 - 1 = a := by omega
  have e4 : t % 1048576 = b := by omega
  simp only [gotoG, gotoOk, if_neg e1, if_pos e2, e3, e4, h1, h2]
  rw [beq_eq_false_iff_ne.mpr h]
  rfl
theorem gotoG_v (t v : Nat) (ht : t = v + 1099511627776) (env : Env) (x : Option Out) (xs : List AV) (h : env v = .agg xs) : gotoG t env x = x := by
  have e1 : ¬ t < 1048576 := by omega
  have e2 : ¬ t < 1099511627776 := by omega
  have e3 : t - 1099511627776 = v := by omega
  simp only [gotoG, gotoOk, if_neg e1, if_neg e2, e3, h]
  rfl
theorem z59 : zeroOf Try.prog 59 = some [.sl [] 0 .nil, .int .i64 0, .int .i64 0, .int .i64 0] := by kernel_rfl
theorem tk59 : tkOf Try.prog 59 = .st := by kernel_rfl
theorem pl59 : placesA Try.prog 59 = some [(0, 1), (1, 1), (2, 1), (3, 1)] := by kernel_rfl
theorem bd59 (bs : List UInt8) (g : Grip) (hg : g = .tight ∨ g = .loose ∨ g = .nil) (a : Int) : buildA Try.prog 59 [(0, .sl (cellsOfBytes bs) bs.length g), (1, .int .i64 a)] = some (.agg [.sl (cellsOfBytes bs) bs.length g, .int .i64 a, .int .i64 0, .int .i64 0]) := by
  rcases hg with rfl | rfl | rfl <;> (simp only [buildA, z59, tk59, pl59, Option.bind_some]; rfl)
theorem boxA_agg (d : Nat) (s : St) (xs : List AV) : boxA d s (.agg xs) = some (.ptr d ((s d).t + 1) 0, upd s d ⟨(s d).t + 1, .buf xs⟩) := by
  simp only [boxA, settle, cellsOf, Option.bind_some, Option.map_some]
def outG (r : T × Int × Int) : AV := .tup [encT r.1, .int .i64 r.2.1, .int .i64 r.2.2]
theorem finish_G (k : Bool) (xs : List Arg) (p e : Nat) (u : T) (a b : Int) (env : Env) (s : St) (os : List (List AV)) (ha : env 4 = .ptr p e 0) (hs : s p = ⟨e, .buf (cellsT u)⟩) (hb : env 5 = .int .i64 a) (hc : env 6 = .int .i64 b) (ho : outsA s 0 xs = some os) :
    finishP Try.prog k xs #[.cell 4 28, .tmp 5, .tmp 6] env s = some (.tree (outG (u, a, b)), os) := by
  have hl : loadA Try.prog 28 s (env 4) = some (.agg (cellsT u)) := by rw [ha, zeo, hs, ldT_u, if_pos rfl]
  simp [finishP, isTmpR, rvA, hl, hb, hc, settleL, settle, ho, encT, outG]
set_option maxHeartbeats 4000000 in
theorem get_of (n D : Nat) (bs : List UInt8) (g : Grip) (hg : g = .tight ∨ g = .loose ∨ g = .nil) (at_ : Int) (H : ∀ a : Nat, at_ = a → a ≤ bs.length → evalFn Try.prog cfg5 n D 31 [.ptr (rC bs g ⟨a, 0, 0⟩) 0, .tree (.int .i64 1)] = some (.tree (encT (termR bs (bs.length + 2) 1 ⟨a, 0, 0⟩).1), [rC bs g (termR bs (bs.length + 2) 1 ⟨a, 0, 0⟩).2, []])) :
    evalFn Try.prog cfg5 n (D+1) 13 [.tree (.sl (cellsOfBytes bs) bs.length g), .tree (.int .i64 at_)] = some (.tree (outG (getR bs at_)), [[], []]) := by
  rw [evalFn_goP _ Try.func13 (by unfold Try.f13; rfl) (by unfold Try.f13; decide) (Nat.le_of_ble_eq_true (by unfold Try.f13; rfl)) (by kernel_rfl)]
  simp only [simP]
  rw [prune_S (i := 6) (c := .seq (.goto (31 * 1048576 + 4)) (.seq (.goto (32 * 1048576 + 4)) (.seq (.goto (33 * 1048576 + 4)) (.seq (.goto (29 + 1099511627776)) .skip)))) (by kernel_rfl) (by kernel_rfl)]
  rw [prune_S (i := 7) (c := .seq (.goto (9 * 1048576 + 4)) (.seq (.goto (36 * 1048576 + 4)) (.seq (.goto (37 * 1048576 + 4)) (.seq (.goto (38 * 1048576 + 4)) (.seq (.goto (34 + 1099511627776)) .skip))))) (by kernel_rfl) (by kernel_rfl)]
  have e0 : env0 [.tree (.sl (cellsOfBytes bs) bs.length g), .tree (.int .i64 at_)] 0 = .sl (cellsOfBytes bs) bs.length g := rfl
  have e1 : env0 [.tree (.sl (cellsOfBytes bs) bs.length g), .tree (.int .i64 at_)] 1 = .int .i64 at_ := rfl
  have j4 : (st0 [.tree (.sl (cellsOfBytes bs) bs.length g), .tree (.int .i64 at_)] 4).t = 0 := rfl
  have j8 : (st0 [.tree (.sl (cellsOfBytes bs) bs.length g), .tree (.int .i64 at_)] 8).t = 0 := rfl
  have j21 : (st0 [.tree (.sl (cellsOfBytes bs) bs.length g), .tree (.int .i64 at_)] 21).t = 0 := rfl
  have ho : ∀ s, outsA s 0 [.tree (.sl (cellsOfBytes bs) bs.length g), .tree (.int .i64 at_)] = some [[], []] := fun s => rfl
  generalize [Arg.tree (.sl (cellsOfBytes bs) bs.length g), .tree (.int .i64 at_)] = as1 at e0 e1 j4 j8 j21 ho
  generalize env0 as1 = env at e0 e1
  generalize st0 as1 = st at j4 j8 j21
  have st0T := fun s p k' => st_Tt s p k' T0
  have s60T := fun t k' p st => stT_6 t k' p st (.int .i64 0) (.bool false) (.sl [] 0 .nil) (.str []) (.int .i64 0) (.sl [] 0 .nil) T0
  unfold getR
  by_cases hr : at_ < 0 ∨ at_ > bs.length
  · rw [if_pos hr]
    by_cases h1 : at_ < 0
    · simp only [simB, keep5, Nat.reduceBEq, own5, String.reduceAppend, String.reduceBEq, Bool.or_false, Bool.or_true, Bool.or_self, ↓reduceIte, Nat.reduceEqDiff, Nat.reduceAdd, simA, simL, simN, Nat.zero_add, e0, e1, j4, zeroT, y_lss, h1, bdY_00, st0T, s60T]
      exact finish_G _ _ 4 1 T0 _ _ _ _ _ (by simp only [zfk, ↓reduceIte, Nat.reduceEqDiff]; try rfl) (by simp only [zfk, ↓reduceIte, Nat.reduceEqDiff]; try rfl) (by simp only [zfk, ↓reduceIte, Nat.reduceEqDiff]; try rfl) (by simp only [zfk, ↓reduceIte, Nat.reduceEqDiff]; try rfl) (ho _)
    · have h2 := hr.resolve_left h1
      simp only [simB, keep5, Nat.reduceBEq, own5, String.reduceAppend, String.reduceBEq, Bool.or_false, Bool.or_true, Bool.or_self, ↓reduceIte, Nat.reduceEqDiff, Nat.reduceAdd, simA, simL, simN, Nat.zero_add, e0, e1, j4, zeroT, y_lss, y_gtr, h1, h2, lenB, bdY_00, st0T, s60T]
      exact finish_G _ _ 4 1 T0 _ _ _ _ _ (by simp only [zfk, ↓reduceIte, Nat.reduceEqDiff]; try rfl) (by simp only [zfk, ↓reduceIte, Nat.reduceEqDiff]; try rfl) (by simp only [zfk, ↓reduceIte, Nat.reduceEqDiff]; try rfl) (by simp only [zfk, ↓reduceIte, Nat.reduceEqDiff]; try rfl) (ho _)
  · rw [if_neg hr]
    have h1 : ¬ at_ < 0 := fun h => hr (.inl h)
    have h2 : ¬ at_ > bs.length := fun h => hr (.inr h)
    obtain ⟨a, rfl⟩ : ∃ a : Nat, at_ = a := ⟨at_.toNat, by omega⟩
    rw [Int.toNat_natCast]
    have ct := fun D' (st : St) (hp : st 21 = ⟨1, .buf (rC bs g ⟨a, 0, 0⟩)⟩) => callA_ptr (call := evalFn Try.prog cfg5 n D) [.int .i64 1] rfl (H a rfl (by omega)) D' hp
    obtain ⟨w, hw⟩ : ∃ w, termR bs (bs.length + 2) 1 ⟨a, 0, 0⟩ = w := ⟨_, rfl⟩
    rw [hw] at ct
    rw [hw]
    obtain ⟨u, i, tm, e⟩ := w
    have bd := bd59 bs g hg (a : Int)
    have stu := fun s p k' => st_Tt s p k' u
    have s6u := fun t k' p st => stT_6 t k' p st (.int .i64 0) (.bool false) (.sl [] 0 .nil) (.str []) (.int .i64 0) (.sl [] 0 .nil) u
    dsimp only at ct ⊢
    simp only [encT] at ct
    have z0 : ((0 : Nat) : Int) = 0 := rfl
    simp only [rC] at ct
    by_cases he : e = 0
    · have b1 : (e != 0) = false := by rw [he]; rfl
      rw [if_neg (fun h => h he)]
      simp only [simB, keep5, Nat.reduceBEq, own5, String.reduceAppend, String.reduceBEq, Bool.or_false, Bool.or_true, Bool.or_self, ↓reduceIte, Nat.reduceEqDiff, Nat.reduceAdd, simA, simL, simN, Nat.zero_add, e0, e1, j4, j8, j21, zeroT, y_lss, y_gtr, y_neq, h1, h2, lenB, bd, boxA_agg, ct, opA_nck, nckA_p, fa59_1, fa59_3, ld59_1, ld59_3, b1, ldT_u, stu, s6u, den_gotoG]
      refine Eq.trans (gotoG_r 8 4 _ rfl (by decide) (by decide) _ _ (p := 8) (k := 1) (o := 0) (q := 4) (k' := 1) (o' := 0) (by simp only [zfk, ↓reduceIte, Nat.reduceEqDiff]; try rfl) (by simp only [zfk, ↓reduceIte, Nat.reduceEqDiff]; try rfl) (by decide)) ?_
      refine Eq.trans (gotoG_r 35 4 _ rfl (by decide) (by decide) _ _ (p := 21) (k := 1) (o := 0) (q := 4) (k' := 1) (o' := 0) (by simp only [zfk, ↓reduceIte, Nat.reduceEqDiff]; try rfl) (by simp only [zfk, ↓reduceIte, Nat.reduceEqDiff]; try rfl) (by decide)) ?_
      refine Eq.trans (gotoG_r 36 4 _ rfl (by decide) (by decide) _ _ (p := 21) (k := 1) (o := 0) (q := 4) (k' := 1) (o' := 0) (by simp only [zfk, ↓reduceIte, Nat.reduceEqDiff]; try rfl) (by simp only [zfk, ↓reduceIte, Nat.reduceEqDiff]; try rfl) (by decide)) ?_
      refine Eq.trans (gotoG_r 37 4 _ rfl (by decide) (by decide) _ _ (p := 21) (k := 1) (o := 1) (q := 4) (k' := 1) (o' := 0) (by simp only [zfk, ↓reduceIte, Nat.reduceEqDiff]; try rfl) (by simp only [zfk, ↓reduceIte, Nat.reduceEqDiff]; try rfl) (by decide)) ?_
      refine Eq.trans (gotoG_v _ 34 rfl _ _ (cellsT u) (by simp only [zfk, ↓reduceIte, Nat.reduceEqDiff]; try rfl)) ?_
      exact finish_G _ _ 4 1 u _ _ _ _ _ (by simp only [zfk, ↓reduceIte, Nat.reduceEqDiff]; try rfl) (by simp only [zfk, ↓reduceIte, Nat.reduceEqDiff]; try rfl) (by simp only [zfk, ↓reduceIte, Nat.reduceEqDiff]; try rfl) (by simp only [zfk, ↓reduceIte, Nat.reduceEqDiff]; try rfl) (ho _)
    · have b1 : (e != 0) = true := by simpa using he
      rw [if_pos he]
      simp only [simB, keep5, Nat.reduceBEq, own5, String.reduceAppend, String.reduceBEq, Bool.or_false, Bool.or_true, Bool.or_self, ↓reduceIte, Nat.reduceEqDiff, Nat.reduceAdd, simA, simL, simN, Nat.zero_add, e0, e1, j4, j8, j21, zeroT, y_lss, y_gtr, y_neq, h1, h2, lenB, bd, boxA_agg, ct, opA_nck, nckA_p, fa59_1, fa59_3, ld59_1, ld59_3, b1, ldT_u, stu, s6u, bdY_00, st0T, s60T, den_gotoG]
      refine Eq.trans (gotoG_r 30 4 _ rfl (by decide) (by decide) _ _ (p := 21) (k := 1) (o := 0) (q := 4) (k' := 1) (o' := 0) (by simp only [zfk, ↓reduceIte, Nat.reduceEqDiff]; try rfl) (by simp only [zfk, ↓reduceIte, Nat.reduceEqDiff]; try rfl) (by decide)) ?_
      refine Eq.trans (gotoG_r 31 4 _ rfl (by decide) (by decide) _ _ (p := 21) (k := 1) (o := 0) (q := 4) (k' := 1) (o' := 0) (by simp only [zfk, ↓reduceIte, Nat.reduceEqDiff]; try rfl) (by simp only [zfk, ↓reduceIte, Nat.reduceEqDiff]; try rfl) (by decide)) ?_
      refine Eq.trans (gotoG_r 32 4 _ rfl (by decide) (by decide) _ _ (p := 21) (k := 1) (o := 3) (q := 4) (k' := 1) (o' := 0) (by simp only [zfk, ↓reduceIte, Nat.reduceEqDiff]; try rfl) (by simp only [zfk, ↓reduceIte, Nat.reduceEqDiff]; try rfl) (by decide)) ?_
      refine Eq.trans (gotoG_v _ 29 rfl _ _ (cellsT T0) (by simp only [zfk, ↓reduceIte, Nat.reduceEqDiff]; try rfl)) ?_
      exact finish_G _ _ 4 1 T0 _ _ _ _ _ (by simp only [zfk, ↓reduceIte, Nat.reduceEqDiff]; try rfl) (by simp only [zfk, ↓reduceIte, Nat.reduceEqDiff]; try rfl) (by simp only [zfk, ↓reduceIte, Nat.reduceEqDiff]; try rfl) (by simp only [zfk, ↓reduceIte, Nat.reduceEqDiff]; try rfl) (ho _)
theorem get_eq (n D : Nat) (hn : 2200 ≤ n) (bs : List UInt8) (g : Grip) (hg : g = .tight ∨ g = .loose ∨ g = .nil) (hl : bs.length ≤ 1000000000000) (hD : 3 * (bs.length + 2) + 6030 ≤ D) (hbig : (110 : UInt8) ∈ bs → ∀ D, 6000 ≤ D → BigOk n D) (at_ : Int) :
    evalFn Try.prog cfg5 n (D+1) 13 [.tree (.sl (cellsOfBytes bs) bs.length g), .tree (.int .i64 at_)] = some (.tree (outG (getR bs at_)), [[], []]) :=
  get_of n D bs g hg at_ fun a _ ha => term_eq n hn bs g (bs.length + 2) D 1 0 (by omega) (by omega) (by decide) (by decide) (fun i _ h => hbig (List.mem_of_mem_drop (List.mem_of_mem_take (by rw [h]; exact List.mem_singleton.2 rfl)))) ⟨a, 0, 0⟩ ⟨ha, hl, by dsimp only; omega, by dsimp only; omega, fun _ => by dsimp only; omega⟩ (fun _ => Nat.zero_le _)
end Go.Ab

/- Readings of long lists and of deep tuples: plain mathematics. Conditions: lengths in range. -/
namespace Go.Ab
open Go.Proofs
set_option maxRecDepth 100000

end Go.Ab

/- Readings of deep tuples: plain mathematics. Conditions: lengths in range. -/
namespace Go.Ab
open Go.Proofs
set_option maxRecDepth 100000

end Go.Ab

/- ext.Get of long lists and of deep tuples (CFG5). Conditions: lengths in range. -/
namespace Go.Ab
open Go.Proofs
set_option maxRecDepth 100000

end Go.Ab

/- The example of the statements on bytes, by the kernel's own reckoning (CFG5). No conditions. -/
namespace Go.Ab
open Go.Proofs
theorem awake5_eq : evalFn Try.prog cfg5 2200 20 9 [] = some (.tree (.bool true), []) := isOkT_eq (by kernel_rfl)
end Go.Ab

/- ExtLong gives true (CFG5). No conditions. -/
namespace Go.Ab
open Go.Proofs
set_option maxRecDepth 100000
set_option linter.unusedSimpArgs false

end Go.Ab

/- A number of its sign and bytes, as the program makes it (CFG5). Conditions: at most 49 bytes. -/
namespace Go.Ab
open Go.Proofs
set_option maxRecDepth 100000
set_option linter.unusedSimpArgs false

def limO (x : List UInt8) (j : Nat) : Nat := (x.getD (4 * j) 0).toNat + 256 * (x.getD (4 * j + 1) 0).toNat + 65536 * (x.getD (4 * j + 2) 0).toNat + 16777216 * (x.getD (4 * j + 3) 0).toNat
theorem limR_len (x : List UInt8) : ∀ m j, (limR x m j).length = m
  | 0, j => rfl
  | m + 1, j => by simp only [limR, List.length_cons, limR_len x m]
theorem limR_get (x : List UInt8) : ∀ m j k, k < m → (limR x m j)[k]? = some (limO x (j + k))
  | 0, j, k, h => by omega
  | m + 1, j, 0, h => rfl
  | m + 1, j, k + 1, h => by
    simp only [limR, List.getElem?_cons_succ]
    rw [limR_get x m (j + 1) k (by omega), show j + 1 + k = j + (k + 1) by omega]
theorem limR_getD (x : List UInt8) (m k : Nat) (h : k < m) : (limR x m 0).getD k 0 = limO x k := by
  rw [List.getD_eq_getElem?_getD, limR_get x m 0 k h, Nat.zero_add]; rfl
theorem limR_zero (m : Nat) : ∀ j, limR [] m j = List.replicate m 0 := by
  induction m with
  | zero => intro j; rfl
  | succ m ih => intro j; simp only [limR, ih, List.replicate_succ, List.getD_nil]; rfl
theorem getD_take_le (y : List UInt8) (i k : Nat) (h : i ≤ k) : (y.take i).getD k 0 = 0 := by
  rw [List.getD_eq_getElem?_getD, List.getElem?_take, if_neg (by omega)]; rfl
theorem getD_take_lt (y : List UInt8) (i k : Nat) (h : k < i) : (y.take i).getD k 0 = y.getD k 0 := by
  rw [List.getD_eq_getElem?_getD, List.getElem?_take, if_pos h, List.getD_eq_getElem?_getD]
theorem limO_other (y : List UInt8) (i j : Nat) (h : j ≠ i / 4) : limO (y.take (i + 1)) j = limO (y.take i) j := by
  have g : ∀ k, k ≠ i → (y.take (i + 1)).getD k 0 = (y.take i).getD k 0 := fun k hk => by
    rcases Nat.lt_or_ge k i with h1 | h1
    · rw [getD_take_lt _ _ _ h1, getD_take_lt _ _ _ (by omega)]
    · rw [getD_take_le _ _ _ h1, getD_take_le _ _ _ (by omega)]
  unfold limO
  rw [g _ (by omega), g _ (by omega), g _ (by omega), g _ (by omega)]
theorem limO_here (y : List UInt8) (i : Nat) : limO (y.take i) (i / 4) < 2 ^ (8 * (i % 4)) ∧ limO (y.take (i + 1)) (i / 4) = limO (y.take i) (i / 4) + (y.getD i 0).toNat * 2 ^ (8 * (i % 4)) := by
  obtain ⟨j, r, rfl, hr⟩ : ∃ j r, i = 4 * j + r ∧ r < 4 := ⟨i / 4, i % 4, by omega, by omega⟩
  have e1 : (4 * j + r) / 4 = j := by omega
  have e2 : (4 * j + r) % 4 = r := by omega
  rw [e1, e2]
  have b : ∀ k, (y.getD k 0).toNat < 256 := fun k => (y.getD k 0).toNat_lt
  have b0 := b (4 * j)
  have b1 := b (4 * j + 1)
  have b2 := b (4 * j + 2)
  unfold limO
  have hz : ((0 : UInt8)).toNat = 0 := rfl
  have lt : ∀ i k, k < i → (y.take i).getD k 0 = y.getD k 0 := getD_take_lt y
  have le : ∀ i k, i ≤ k → (y.take i).getD k 0 = 0 := getD_take_le y
  match r, hr with
  | 0, _ =>
    rw [le (4 * j + 0) (4 * j) (by omega), le (4 * j + 0) (4 * j + 1) (by omega), le (4 * j + 0) (4 * j + 2) (by omega), le (4 * j + 0) (4 * j + 3) (by omega), lt (4 * j + 0 + 1) (4 * j) (by omega), le (4 * j + 0 + 1) (4 * j + 1) (by omega), le (4 * j + 0 + 1) (4 * j + 2) (by omega), le (4 * j + 0 + 1) (4 * j + 3) (by omega), hz]
    exact ⟨by decide, by simp only [Nat.add_zero]; omega⟩
  | 1, _ =>
    rw [lt (4 * j + 1) (4 * j) (by omega), le (4 * j + 1) (4 * j + 1) (by omega), le (4 * j + 1) (4 * j + 2) (by omega), le (4 * j + 1) (4 * j + 3) (by omega), lt (4 * j + 1 + 1) (4 * j) (by omega), lt (4 * j + 1 + 1) (4 * j + 1) (by omega), le (4 * j + 1 + 1) (4 * j + 2) (by omega), le (4 * j + 1 + 1) (4 * j + 3) (by omega), hz]
    exact ⟨by omega, by omega⟩
  | 2, _ =>
    rw [lt (4 * j + 2) (4 * j) (by omega), lt (4 * j + 2) (4 * j + 1) (by omega), le (4 * j + 2) (4 * j + 2) (by omega), le (4 * j + 2) (4 * j + 3) (by omega), lt (4 * j + 2 + 1) (4 * j) (by omega), lt (4 * j + 2 + 1) (4 * j + 1) (by omega), lt (4 * j + 2 + 1) (4 * j + 2) (by omega), le (4 * j + 2 + 1) (4 * j + 3) (by omega), hz]
    exact ⟨by omega, by omega⟩
  | 3, _ =>
    rw [lt (4 * j + 3) (4 * j) (by omega), lt (4 * j + 3) (4 * j + 1) (by omega), lt (4 * j + 3) (4 * j + 2) (by omega), le (4 * j + 3) (4 * j + 3) (by omega), lt (4 * j + 3 + 1) (4 * j) (by omega), lt (4 * j + 3 + 1) (4 * j + 1) (by omega), lt (4 * j + 3 + 1) (4 * j + 2) (by omega), lt (4 * j + 3 + 1) (4 * j + 3) (by omega), hz]
    exact ⟨by omega, by omega⟩
theorem limR_step (y : List UInt8) (i m : Nat) (h : i / 4 < m) : (limR (y.take i) m 0).set (i / 4) (limO (y.take (i + 1)) (i / 4)) = limR (y.take (i + 1)) m 0 := by
  apply List.ext_getElem?
  intro k
  rw [List.getElem?_set]
  by_cases hk : k < m
  · rw [limR_get _ _ _ _ hk, limR_get _ _ _ _ hk, Nat.zero_add]
    by_cases e : i / 4 = k
    · subst e; rw [if_pos rfl, if_pos (by rw [limR_len]; exact h)]
    · rw [if_neg e, limO_other _ _ _ (fun h => e h.symm)]
  · rw [if_neg (by omega), List.getElem?_eq_none (by rw [limR_len]; omega), List.getElem?_eq_none (by rw [limR_len]; omega)]

theorem bdG_N (b : Bool) (q u N : Nat) : buildG Try.prog 25 [(0, .bool b), (1, .own q u 0 N 1)] = some (.aggo [.bool b] q u 0 N 1) := by
  simp only [buildG, tk24, zew, pl24, Option.bind_some]; rfl
theorem stH_N (s : St) (p t q u N : Nat) (a b x : AV) (h : s p = ⟨t, .buf [a, b]⟩) : storeH Try.prog 25 s (.ptr p t 0) (.aggo [x] q u 0 N 1) = some (upd s p ⟨t, .mix [x, .undef] [(1, .own q u 0 N 1)]⟩) := by
  simp [storeH, h, esz24, splice]
theorem faE_mix (t p k off : Nat) (xs : List AV) (hs : List (Nat × AV)) : faE ⟨t, .mix xs hs⟩ p k off = if t = k then some (.ptr p k off) else none := by
  simp only [faE, cellsE]
  by_cases e : t = k <;> simp [e]
theorem ldE_mix22 (t k : Nat) (a b v : AV) : ldE Try.prog 23 ⟨t, .mix [a, b] [(1, v)]⟩ k 1 = if t = k then some v else none := by
  simp only [ldE, ldC, sh22, heldL, if_true]
theorem ldE_mix24 (t k q u N : Nat) (a b : AV) : ldE Try.prog 25 ⟨t, .mix [a, b] [(1, .own q u 0 N 1)]⟩ k 0 = if t = k then some (.aggo [a] q u 0 N 1) else none := by
  simp [ldE, ldC, sh24, heldL]
theorem st_aggo (s : St) (p t q u N : Nat) (a b x : AV) (xs : List AV) (h : s p = ⟨t, .buf [a, b]⟩) (hq : s q = ⟨u, .buf xs⟩) (hpq : p ≠ q) (hl : N ≤ xs.length) : storeA Try.prog 25 s (.ptr p t 0) (.aggo [x] q u 0 N 1) = some (upd (upd s q ⟨u, .frz xs⟩) p ⟨t, .buf [x, .sl (xs.take N) N .loose]⟩) := by
  have h2 : upd s q ⟨u, .frz xs⟩ p = ⟨t, .buf [a, b]⟩ := by rw [upd_ne _ _ hpq]; exact h
  simp [storeA, settle, hq, hl, h2, esz24, splice]
theorem slLo1 (s : St) (x : List UInt8) (g : Grip) (h : 1 ≤ x.length) : ∃ g', sliceA Try.prog 22 s (.sl (cellsOfBytes x) x.length g) (some (.int .i64 1)) none none = some (.sl (cellsOfBytes x.tail) x.tail.length g') := by
  have hx : (cellsOfBytes x).length = x.length * 1 := by simp [cellsOfBytes]
  simp only [sliceA, tkB, eszB, Option.isSome_none, Bool.false_eq_true, false_and, if_false, boundA, Option.bind_some, hx, if_true]
  rw [if_pos (by omega)]
  simp only [Option.bind_some]
  have ht : (cellsOfBytes x).take (x.length * 1) = cellsOfBytes x := List.take_of_length_le (by rw [hx]; exact Nat.le_refl _)
  rw [ht, Nat.mul_one, show (1 : Int).toNat = 1 from rfl, cB_drop, List.drop_one, List.length_tail]
  exact ⟨_, rfl⟩
theorem y_shlI (a K : Nat) (hK : K < 32) (h : a * 2 ^ K < 4294967296) : binA Try.prog .shl 56 (.int .u32 (a : Int)) (.int .i64 (K : Int)) = some (.int .u32 ((a * 2 ^ K : Nat) : Int)) := by
  have hm : min ((K : Int).toNat) 32 = K := by omega
  have e : (a : Int) * 2 ^ K = ((a * 2 ^ K : Nat) : Int) := by rw [Int.natCast_mul, Int.natCast_pow]; rfl
  simp only [binA, shA, IntKind.bits]
  rw [if_neg (by omega)]
  simp only [hm, e]
  have w : IntKind.u32.wrap ((a * 2 ^ K : Nat) : Int) = ((a * 2 ^ K : Nat) : Int) := by
    generalize a * 2 ^ K = q at *
    show (q : Int) % 4294967296 = q
    omega
  rw [w]
theorem y_orU (a b : Nat) (h : a < 4294967296) (h' : b < 4294967296) : binA Try.prog .or 56 (.int .u32 (a : Int)) (.int .u32 (b : Int)) = some (.int .u32 (((a ||| b) : Nat) : Int)) := by
  have h1 : (BitVec.ofInt 32 (a : Int) ||| BitVec.ofInt 32 (b : Int)).toNat = a ||| b := by
    rw [BitVec.toNat_or]
    simp only [BitVec.ofInt_natCast, BitVec.toNat_ofNat]
    rw [Nat.mod_eq_of_lt (by omega), Nat.mod_eq_of_lt (by omega)]
  have h2 : a ||| b < 2 ^ 32 := Nat.or_lt_two_pow (by omega) (by omega)
  show some (AV.int .u32 (IntKind.u32.wrap ((BitVec.ofInt 32 (a : Int) ||| BitVec.ofInt 32 (b : Int)).toNat : Int))) = _
  rw [h1]
  generalize a ||| b = c at *
  have w : IntKind.u32.wrap (c : Int) = (c : Int) := by
    show (c : Int) % 4294967296 = c
    omega
  rw [w]
theorem y_mul8 (r : Nat) (h : r < 4) : binA Try.prog .mul 3 (.int .i64 8) (.int .i64 (r : Int)) = some (.int .i64 ((8 * r : Nat) : Int)) := by
  have e : (8 : Int) * (r : Int) = ((8 * r : Nat) : Int) := by omega
  simp only [binA, intA, if_true, e]
  rw [i64_wrap _ (by omega) (by omega)]
set_option maxHeartbeats 8000000 in
theorem big_eq (n d : Nat) (hn : 100 ≤ n) : BigOk n (d + 1) := by
  intro o ho1
  obtain ⟨gv, hgv⟩ := takeV_row o
  rw [hgv]
  generalize o.getD [] = x at ho1 ⊢
  rw [evalFn_go _ Try.func83 (by unfold Try.f83; rfl) (by unfold Try.f83; decide) (Nat.le_of_ble_eq_true (by unfold Try.f83; rfl)) (by kernel_rfl)]
  have e0 : env0 [.tree (.sl (cellsOfBytes x) x.length gv)] 0 = .sl (cellsOfBytes x) x.length gv := rfl
  have j2 : ∀ j, (st0 [.tree (.sl (cellsOfBytes x) x.length gv)] j).t = 0 := fun j => by
    rcases j with _ | j <;> rfl
  have ho : ∀ s', outsA s' 0 [.tree (.sl (cellsOfBytes x) x.length gv)] = some [[]] := fun s' => rfl
  generalize [Arg.tree (.sl (cellsOfBytes x) x.length gv)] = as1 at e0 j2 ho
  generalize env0 as1 = env at e0
  generalize st0 as1 = st at j2
  unfold bigR
  by_cases hx : x.length < 2
  · have q1 : (x.length : Int) < 2 := by omega
    rw [if_pos hx]
    simp only [simB, keep5, Nat.reduceBEq, own5, String.reduceAppend, String.reduceBEq, Bool.or_false, Bool.or_true, Bool.or_self, ↓reduceIte, Nat.reduceEqDiff, Nat.reduceAdd, simA, simL, simN, Nat.zero_add, e0, j2, lenB, y_lss, q1]
    exact finish_c _ _ _ _ _ _ _ _ _ _ (by simp only [zfk, ↓reduceIte, Nat.reduceEqDiff]; try rfl) (by simp only [zfk, ↓reduceIte, Nat.reduceEqDiff]; try rfl) (ho _)
  · have q1 : ¬ (x.length : Int) < 2 := by omega
    rw [if_neg hx]
    obtain ⟨c, y, rfl⟩ : ∃ c y, x = c :: y := by
      cases x with
      | nil => simp at hx
      | cons c y => exact ⟨c, y, rfl⟩
    simp only [List.headD_cons, List.tail_cons]
    have ia0 := fun st => iaB st (c :: y) gv 0 (by omega)
    rw [List.drop_zero] at ia0
    have ld0 := fun st => ldB st c y
    have hb : ((c.toNat : Int) == 1) = (c == 1) := by
      rw [Bool.eq_iff_iff]
      simp only [beq_iff_eq]
      constructor
      · intro h; apply UInt8.toNat_inj.1; show c.toNat = 1; omega
      · intro h; subst h; rfl
    have hlen : (c :: y).length ≤ 49 := ho1
    have a1 := i_add Try.prog 3 ((c :: y).length : Int) 2 (by omega) (by omega)
    have a2 := i_quo Try.prog 3 ((c :: y).length + 2) 4 (by decide) (by omega)
    rw [show (((c :: y).length + 2 : Nat) : Int) = ((c :: y).length : Int) + 2 by omega, show ((4 : Nat) : Int) = 4 from rfl] at a2
    obtain ⟨N, hN⟩ : ∃ N, ((c :: y).length + 2) / 4 = N := ⟨_, rfl⟩
    rw [hN] at a2 ⊢
    have hN4 : y.length ≤ 4 * N := by simp only [List.length_cons] at hN; omega
    have hN1 : N ≤ 12 := by omega
    have mk := fun s => make22 18 s (N : Int) (by omega) (by omega)
    simp only [Int.toNat_natCast] at mk
    obtain ⟨g', hsl0⟩ := slLo1 dead (c :: y) gv (by simp only [List.length_cons]; omega)
    have hsl : ∀ s, sliceA Try.prog 22 s (.sl (cellsOfBytes (c :: y)) (c :: y).length gv) (some (.int .i64 1)) none none = some (.sl (cellsOfBytes y) y.length g') := fun s => hsl0
    have ia0' : ∀ st, indexAddrA Try.prog 22 st (.sl (cellsOfBytes (c :: y)) (c :: y).length gv) (.int .i64 0) = some (.rptr (cellsOfBytes (c :: y))) := ia0
    simp only [simB, keep5, Nat.reduceBEq, own5, String.reduceAppend, String.reduceBEq, Bool.or_false, Bool.or_true, Bool.or_self, ↓reduceIte, Nat.reduceEqDiff, Nat.reduceAdd, simA, simL, simN, Nat.zero_add, e0, j2, lenB, y_lss, q1, ia0', ld0, y_eql8, hb, a1, a2, mk, bdG_N]
    rw [stH_N _ 3 1 18 1 N (.bool false) (.sl [] 0 .nil) (.bool (c == 1)) (by simp only [zfk, ↓reduceIte, Nat.reduceEqDiff]; try rfl)]
    simp only [simB, keep5, Nat.reduceBEq, own5, String.reduceAppend, String.reduceBEq, Bool.or_false, Bool.or_true, Bool.or_self, ↓reduceIte, Nat.reduceEqDiff, Nat.reduceAdd, simA, simL, simN, Nat.zero_add, e0, hsl, lenB, den_loop]
    have hL0 : limR (y.take 0) N 0 = List.replicate N 0 := by rw [List.take_zero, limR_zero]
    refine loop_ends (X := Nat) (fun i env s => env 2 = .ptr 2 1 0 ∧ env 3 = .ptr 3 1 0 ∧ env 21 = .sl (cellsOfBytes y) y.length g' ∧ env 22 = .int .i64 (y.length : Int) ∧ env 23 = .int .i64 (i : Int) ∧ i ≤ y.length ∧ s 2 = ⟨1, .buf [.bool false, .sl [] 0 .nil]⟩ ∧ s 3 = ⟨1, .mix [.bool (c == 1), .undef] [(1, .own 18 1 0 N 1)]⟩ ∧ s 18 = ⟨1, .buf (encC (limR (y.take i) N 0))⟩) (fun i => y.length - i) (fun _ => (.tree (encA (c == 1) .l (limR y N 0)), [[]])) ?_ n 0 _ _ (by simp only [List.length_cons] at hlen; omega) ⟨(by simp only [zfk, ↓reduceIte, Nat.reduceEqDiff]; try rfl), (by simp only [zfk, ↓reduceIte, Nat.reduceEqDiff]; try rfl), (by simp only [zfk, ↓reduceIte, Nat.reduceEqDiff]; try rfl), (by simp only [zfk, ↓reduceIte, Nat.reduceEqDiff]; try rfl), (by simp only [zfk, ↓reduceIte, Nat.reduceEqDiff]; try rfl), Nat.zero_le _, (by simp only [zfk, ↓reduceIte, Nat.reduceEqDiff]; try rfl), (by simp only [zfk, ↓reduceIte, Nat.reduceEqDiff]; try rfl), (by simp only [zfk, ↓reduceIte, Nat.reduceEqDiff, hL0]; try rfl)⟩
    rintro rd i hrd ih env1 s1 ⟨e2, e3, e21, e22, e23, hi, k2, k3, k18⟩
    cases hdr : y.drop i with
    | cons v q =>
      have hlt : i < y.length := by have := congrArg List.length hdr; simp only [List.length_drop, List.length_cons] at this; omega
      have q3 : (i : Int) < (y.length : Int) := by omega
      have ia := fun st => iaB st y g' i hlt
      rw [hdr] at ia
      have ld := fun st => ldB st v q
      have hv : v.toNat < 256 := v.toNat_lt
      have hyv : y.getD i 0 = v := by
        have hxi : y[i]? = some v := by rw [← Nat.add_zero i, ← List.getElem?_drop, hdr]; rfl
        rw [List.getD_eq_getElem?_getD, hxi]; rfl
      have hiN : i / 4 < N := by omega
      have c1 := i_quo Try.prog 3 i 4 (by decide) (by omega)
      have c2 := i_rem Try.prog 3 i 4 (by decide)
      rw [show ((4 : Nat) : Int) = 4 from rfl] at c1 c2
      have c3 := y_mul8 (i % 4) (by omega)
      have hpow : 256 * 2 ^ (8 * (i % 4)) ≤ 4294967296 := by
        have h : i % 4 < 4 := Nat.mod_lt _ (by decide)
        generalize i % 4 = r at h ⊢
        match r, h with
        | 0, _ => decide
        | 1, _ => decide
        | 2, _ => decide
        | 3, _ => decide
      have hmul : v.toNat * 2 ^ (8 * (i % 4)) < 4294967296 := Nat.lt_of_lt_of_le ((Nat.mul_lt_mul_right (Nat.two_pow_pos _)).2 hv) hpow
      have c4 := y_shlI v.toNat (8 * (i % 4)) (by omega) hmul
      have c5 := fun s => conv5_31 s v.toNat hv
      obtain ⟨hold, hnew⟩ := limO_here y i
      rw [hyv] at hnew
      have hold2 : limO (y.take i) (i / 4) < 4294967296 := by
        have : 2 ^ (8 * (i % 4)) ≤ 256 * 2 ^ (8 * (i % 4)) := Nat.le_mul_of_pos_left _ (by decide)
        omega
      have c6 := y_orU (limO (y.take i) (i / 4)) (v.toNat * 2 ^ (8 * (i % 4))) hold2 hmul
      rw [shl_or _ _ _ hold, ← hnew] at c6
      have hLl : (limR (y.take i) N 0).length = N := limR_len _ _ _
      have c7 : ∀ s, s 18 = (⟨1, .buf (encC (limR (y.take i) N 0))⟩ : Ent) → indexAddrA Try.prog 23 s (.own 18 1 0 N 1) (.int .i64 ((i / 4 : Nat) : Int)) = some (.ptr 18 1 (i / 4)) := fun s h => by
        have := ia_own s 18 1 (limR (y.take i) N 0) N .i64 ((i / 4 : Nat) : Int) h (by omega) (by omega)
        rwa [Int.toNat_natCast] at this
      have c8 : ∀ s, s 18 = (⟨1, .buf (encC (limR (y.take i) N 0))⟩ : Ent) → loadA Try.prog 56 s (.ptr 18 1 (i / 4)) = some (.int .u32 (limO (y.take i) (i / 4) : Int)) := fun s h => by
        rw [ld_own s 18 1 (limR (y.take i) N 0) (i / 4) h (by omega), limR_getD _ _ _ hiN]
      have c9 : ∀ s, s 18 = (⟨1, .buf (encC (limR (y.take i) N 0))⟩ : Ent) → storeA Try.prog 56 s (.ptr 18 1 (i / 4)) (.int .u32 (limO (y.take (i + 1)) (i / 4) : Int)) = some (upd s 18 ⟨1, .buf (encC (limR (y.take (i + 1)) N 0))⟩) := fun s h => by
        rw [st31 s 18 1 (limR (y.take i) N 0) (i / 4) _ h (by omega), limR_step _ _ _ hiN]
      have c10 := i_add Try.prog 3 (i : Int) 1 (by omega) (by omega)
      simp only [simB, keep5, Nat.reduceBEq, own5, String.reduceAppend, String.reduceBEq, Bool.or_false, Bool.or_true, Bool.or_self, ↓reduceIte, Nat.reduceEqDiff, Nat.reduceAdd, simA, simL, simN, Nat.zero_add, y_lss, e2, e3, e21, e22, e23, q3, ia, ld, k3, faE_mix, ldE_mix22, c1, c2, c3, c4, c5, c6, c7 _ k18, c8 _ k18, c9 _ k18, c10]
      exact ih (i + 1) _ _ (by omega) rfl ⟨(by simp only [zfk, ↓reduceIte, Nat.reduceEqDiff, e2]; try rfl), (by simp only [zfk, ↓reduceIte, Nat.reduceEqDiff, e3]; try rfl), (by simp only [zfk, ↓reduceIte, Nat.reduceEqDiff, e21]; try rfl), (by simp only [zfk, ↓reduceIte, Nat.reduceEqDiff, e22]; try rfl), (by simp only [zfk, ↓reduceIte, Nat.reduceEqDiff]; try rfl), by omega, (by simp only [zfk, ↓reduceIte, Nat.reduceEqDiff, k2]; try rfl), (by simp only [zfk, ↓reduceIte, Nat.reduceEqDiff, k3]; try rfl), (by simp only [zfk, ↓reduceIte, Nat.reduceEqDiff]; try rfl)⟩
    | nil =>
      have hie : i = y.length := by have := congrArg List.length hdr; simp only [List.length_drop, List.length_nil] at this; omega
      subst hie
      rw [List.take_length] at k18
      have q3 : ¬ (y.length : Int) < (y.length : Int) := by omega
      have hLl : (encC (limR y N 0)).length = N := by rw [encC_len, limR_len]
      simp only [simB, keep5, Nat.reduceBEq, own5, String.reduceAppend, String.reduceBEq, Bool.or_false, Bool.or_true, Bool.or_self, ↓reduceIte, Nat.reduceEqDiff, Nat.reduceAdd, simA, simL, simN, Nat.zero_add, y_lss, e2, e3, e21, e22, e23, q3, k3, ldE_mix24]
      rw [st_aggo _ 2 1 18 1 N _ _ _ _ k2 k18 (by decide) (by omega)]
      simp only [simB, keep5, Nat.reduceBEq, own5, String.reduceAppend, String.reduceBEq, Bool.or_false, Bool.or_true, Bool.or_self, ↓reduceIte, Nat.reduceEqDiff, Nat.reduceAdd, simA, simL, simN, Nat.zero_add]
      have htk : (encC (limR y N 0)).take N = encC (limR y N 0) := List.take_of_length_le (by omega)
      rw [htk]
      refine (finish_c _ _ _ 2 1 (.bool (c == 1)) (.sl (encC (limR y N 0)) N .loose) _ _ _ (by simp only [zfk, ↓reduceIte, Nat.reduceEqDiff, e2]; try rfl) (by simp only [zfk, ↓reduceIte, Nat.reduceEqDiff]; try rfl) (ho _)).trans ?_
      rw [encA, encL, limR_len]; rfl
end Go.Ab

/- Numbers, names, texts that were written are read: plain mathematics. Conditions: places in range. -/
namespace Go.Ab
open Go.Proofs
set_option maxRecDepth 100000

end Go.Ab

/- What was written is read: plain mathematics. Conditions: terms that may be; places in range. -/
namespace Go.Ab
open Go.Proofs
set_option maxRecDepth 100000

theorem listR_ok {bs : List UInt8} {rd1 rd2 : RS → T × RS} {s : RS} {m : Int × RS} {h : List T × RS} {t : T × RS} (hm : manyR bs s 4 1 (2001 - s.tm) = m) (hh : someR rd1 m.1.toNat (bumpR m) [] = h) (ht : rd2 h.2 = t) (hk : ¬ kindT t.1 = 4) : listR bs rd1 rd2 s = (listT h.1 t.1, t.2) := by
  subst hm hh ht
  unfold listR
  dsimp only
  rw [if_neg hk]
end Go.Ab

/- What is cut is short: plain mathematics. Conditions: places in range. -/
namespace Go.Ab
open Go.Proofs
set_option maxRecDepth 100000

def CutR {α : Type} (bs : List UInt8) (k f f' : Nat) (F F' : RS → α × RS) : Prop := ∀ s, InvR bs s → s.e = 0 → s.i ≤ k → bs.length < s.i + f → k < s.i + f' → (F s).2.e = 0 → ((F s).2.i ≤ k → F' s = F s) ∧ (k < (F s).2.i → (F' s).2.e = 3)
theorem takeR_short {bs : List UInt8} {s : RS} {n : Nat} (h : s.e ≠ 0 ∨ bs.length < s.i + n) : takeR bs s n = (none, s.fail 3) := by unfold takeR; rw [if_pos h]
theorem takeR_is {bs : List UInt8} {s : RS} {n : Nat} (h : s.e = 0) (h2 : s.i + n ≤ bs.length) : takeR bs s n = (some ((bs.drop s.i).take n), ⟨s.i + n, s.tm, s.e⟩) := by
  unfold takeR
  rw [if_neg (fun hh => by
    rcases hh with hh | hh
    · exact hh h
    · omega)]
theorem fail3 {s : RS} (h : s.e = 0) : (s.fail 3).e = 3 := by unfold RS.fail; rw [if_pos h]
theorem manyR_of2 {bs : List UInt8} {s : RS} {n : Nat} {a b : Int} {o : Option (List UInt8) × RS} (h : takeR bs s n = o) : manyR bs s n a b = if o.2.e ≠ 0 then (0, o.2) else if beV (o.1.getD []) 0 < a ∨ b < beV (o.1.getD []) 0 then (0, o.2.fail 4) else (beV (o.1.getD []) 0, o.2) := by
  subst h; rfl
theorem endR_e {bs : List UInt8} {r : RS} {p : T} {fr : Nat} (h : (endR bs r p fr).e = 0) : r.e = 0 ∧ endR bs r p fr = r := by
  unfold endR at h ⊢
  split
  · rename_i h1
    rw [if_pos h1] at h
    unfold RS.fail at h
    rw [if_pos h1.1] at h
    cases h
  · rename_i h1
    rw [if_neg h1] at h
    exact ⟨h, rfl⟩
theorem CutR.bind {α β : Type} {bs : List UInt8} {k f f' : Nat} {F F' : RS → α × RS} (H : CutR bs k f f' F F') {G G' : α → RS → β × RS} (HG : ∀ a, CutR bs k f f' (G a) (G' a))
    (h0 : ∀ s, InvR bs s → InvR bs (F s).2 ∧ s.i ≤ (F s).2.i) (h1 : ∀ a s, InvR bs s → s.i ≤ (G a s).2.i) (h2 : ∀ a s, s.e ≠ 0 → (G a s).2.e ≠ 0) (h3 : ∀ a s, s.e = 3 → (G' a s).2.e = 3) :
    CutR bs k f f' (fun s => G (F s).1 (F s).2) (fun s => G' (F' s).1 (F' s).2) := by
  intro s hs he hi hf hf' h
  dsimp only at h ⊢
  have hFe : (F s).2.e = 0 := by
    rcases Classical.em ((F s).2.e = 0) with hh | hh
    · exact hh
    · exact absurd h (h2 _ _ hh)
  have c1 := H s hs he hi hf hf' hFe
  have hi1 := h0 s hs
  rcases Nat.lt_or_ge k (F s).2.i with hh | hh
  · refine ⟨fun h4 => ?_, fun _ => h3 _ _ (c1.2 hh)⟩
    have := h1 (F s).1 _ hi1.1
    omega
  · rw [c1.1 hh]
    exact HG (F s).1 (F s).2 hi1.1 hFe hh (by omega) (by omega) h
end Go.Ab

/- What is cut is short: terms. Conditions: places in range. -/
namespace Go.Ab
open Go.Proofs
set_option maxRecDepth 100000

theorem CutR.map {α β : Type} {bs : List UInt8} {k f f' : Nat} {F F' : RS → α × RS} (H : CutR bs k f f' F F') (g : α → β) : CutR bs k f f' (fun s => (g (F s).1, (F s).2)) (fun s => (g (F' s).1, (F' s).2)) := by
  intro s hs he hi hf hf' h
  have := H s hs he hi hf hf' h
  dsimp only at h ⊢
  exact ⟨fun h1 => by rw [this.1 h1], this.2⟩
def finR (bs : List UInt8) (fr : Nat) (x : T × RS) : T × RS := (x.1, endR bs x.2 x.1 fr)
def raw97 (o : Option (List UInt8)) : T := one97 (o.getD [])
def raw98 (o : Option (List UInt8)) : T := match o with | some x => smallT (i32 (beV x 0)) | none => .mk 1 false .n [] [] 0 .n []
def raw110 (o : Option (List UInt8)) : T := .mk 1 (bigR (o.getD [])).1 (bigR (o.getD [])).2.1 (bigR (o.getD [])).2.2 [] 0 .n []
def raw119 (o : Option (List UInt8)) : T := .mk 2 false .n [] (o.getD []) 0 .n []
def raw109 (o : Option (List UInt8)) : T := .mk 6 false .n [] (o.getD []) 0 .n []
def two (f : Int → Nat) (g : Option (List UInt8) → T) (bs : List UInt8) (n : Nat) (a b : Int) (s : RS) : T × RS := (g (takeR bs (manyR bs s n a b).2 (f (manyR bs s n a b).1)).1, (takeR bs (manyR bs s n a b).2 (f (manyR bs s n a b).1)).2)
theorem plainF_97 (bs : List UInt8) (s : RS) (fr : Nat) : plainR bs s 97 fr = finR bs fr (raw97 (takeR bs s 1).1, (takeR bs s 1).2) := rfl
theorem plainF_98 (bs : List UInt8) (s : RS) (fr : Nat) : plainR bs s 98 fr = finR bs fr (raw98 (takeR bs s 4).1, (takeR bs s 4).2) := rfl
theorem plainF_110 (bs : List UInt8) (s : RS) (fr : Nat) : plainR bs s 110 fr = finR bs fr (two (fun m => 1 + m.toNat) raw110 bs 1 1 48 s) := rfl
theorem plainF_119 (bs : List UInt8) (s : RS) (fr : Nat) : plainR bs s 119 fr = finR bs fr (two Int.toNat raw119 bs 1 1 40 s) := rfl
theorem plainF_109 (bs : List UInt8) (s : RS) (fr : Nat) : plainR bs s 109 fr = finR bs fr (two Int.toNat raw109 bs 4 0 400 s) := rfl
theorem plainF_106 (bs : List UInt8) (s : RS) (fr : Nat) : plainR bs s 106 fr = finR bs fr (nilT', s) := rfl
theorem someR_z {rd : RS → T × RS} (hr : ∀ s, (rd s).2.e = 0 → s.e = 0) (n : Nat) (s : RS) (acc : List T) (h : (someR rd n s acc).2.e = 0) : s.e = 0 := by
  cases n with
  | zero => exact h
  | succ n =>
    simp only [someR] at h
    split at h
    · rename_i h1; exact absurd h h1
    · rename_i h1; exact hr s (by simpa using h1)
theorem list_e {rd1 rd2 : RS → T × RS} {bs : List UInt8} {s : RS} (h : (listR bs rd1 rd2 s).2.e = 0) : (rd2 (someR rd1 (manyR bs s 4 1 (2001 - s.tm)).1.toNat (bumpR (manyR bs s 4 1 (2001 - s.tm))) []).2).2.e = 0 ∧ kindT (rd2 (someR rd1 (manyR bs s 4 1 (2001 - s.tm)).1.toNat (bumpR (manyR bs s 4 1 (2001 - s.tm))) []).2).1 ≠ 4 := by
  unfold listR at h
  dsimp only at h
  split at h
  · unfold RS.fail at h
    split at h
    · cases h
    · rename_i h1; exact absurd h h1
  · rename_i h1; exact ⟨h, h1⟩
end Go.Ab

/- What was read may be, and is written so: plain mathematics. Conditions: places in range. -/
namespace Go.Ab
open Go.Proofs
set_option maxRecDepth 100000

def sliR (bs : List UInt8) (i j : Nat) : List UInt8 := (bs.drop i).take (j - i)
theorem sli_app (bs : List UInt8) {i j k : Nat} (h1 : i ≤ j) (h2 : j ≤ k) : sliR bs i k = sliR bs i j ++ sliR bs j k := by
  unfold sliR
  rw [show k - i = (j - i) + (k - j) by omega, List.take_add, List.drop_drop, show i + (j - i) = j by omega]
theorem sli_self (bs : List UInt8) (i : Nat) : sliR bs i i = [] := by simp [sliR]
theorem take_sli {bs : List UInt8} {s : RS} {n : Nat} (h : (takeR bs s n).2.e = 0) : (takeR bs s n).1 = some (sliR bs s.i (s.i + n)) ∧ (takeR bs s n).2 = ⟨s.i + n, s.tm, 0⟩ ∧ s.i + n ≤ bs.length ∧ s.e = 0 := by
  obtain ⟨h1, _⟩ := takeR_e h
  have h2 : s.i + n ≤ bs.length := by
    rcases Nat.lt_or_ge bs.length (s.i + n) with hh | hh
    · rw [takeR_short (.inr hh), fail3 h1] at h; cases h
    · exact hh
  rw [takeR_is h1 h2, h1]
  refine ⟨?_, rfl, h2, rfl⟩
  rw [sliR, show s.i + n - s.i = n by omega]
theorem many_sli {bs : List UInt8} {s : RS} {n : Nat} {a b : Int} (h : (manyR bs s n a b).2.e = 0) : (manyR bs s n a b).1 = beV (sliR bs s.i (s.i + n)) 0 ∧ (manyR bs s n a b).2 = ⟨s.i + n, s.tm, 0⟩ ∧ s.i + n ≤ bs.length ∧ s.e = 0 ∧ a ≤ (manyR bs s n a b).1 ∧ (manyR bs s n a b).1 ≤ b := by
  obtain ⟨h1, h2, h3, h4⟩ := manyR_e h
  obtain ⟨h5, h6, h7, h8⟩ := take_sli h1
  refine ⟨?_, by rw [h2, h6], h7, h8, h3, h4⟩
  have h9 := manyR_of2 (a := a) (b := b) (rfl : takeR bs s n = takeR bs s n)
  rw [if_neg (fun hh => hh h1), h5, Option.getD_some] at h9
  split at h9
  · rw [h9] at h; exact absurd h (fail_e _ _ (by decide))
  · rw [h9]
theorem be32_beV (w : List UInt8) (h : w.length = 4) : be32 (beV w 0) = w := by
  match w, h with
  | [a, b, c, d], _ =>
    have ha := a.toNat_lt
    have hb := b.toNat_lt
    have hc := c.toNat_lt
    have hd := d.toNat_lt
    simp only [beV, be32, u8]
    have e : ∀ (x : UInt8) (z : Int), z % 256 = (x.toNat : Int) → UInt8.ofNat (z % 256).toNat = x := fun x z hz => by
      apply UInt8.toNat_inj.1
      rw [hz, Int.toNat_natCast, UInt8.toNat_ofNat']
      have := x.toNat_lt
      omega
    rw [e a _ (by omega), e b _ (by omega), e c _ (by omega), e d _ (by omega)]
theorem u8_beV (w : List UInt8) (h : w.length = 1) : [u8 (beV w 0)] = w := by
  match w, h with
  | [a], _ =>
    have ha := a.toNat_lt
    simp only [beV, u8]
    congr 1
    apply UInt8.toNat_inj.1
    rw [UInt8.toNat_ofNat']
    omega
theorem sli_len {bs : List UInt8} {i n : Nat} (h : i + n ≤ bs.length) : (sliR bs i (i + n)).length = n := by
  rw [sliR, List.length_take, List.length_drop]; omega
theorem endR_ok {bs : List UInt8} {r : RS} {p : T} {fr : Nat} (h : (endR bs r p fr).e = 0) : putB p = sliR bs fr r.i ∧ ownT p = true := by
  obtain ⟨h1, h2⟩ := endR_e h
  rcases Classical.em (putB p = (bs.drop fr).take (r.i - fr) ∧ ownT p = true) with hh | hh
  · exact hh
  · exfalso
    unfold endR at h
    rw [if_pos ⟨h1, hh⟩] at h
    unfold RS.fail at h
    rw [if_pos h1] at h
    cases h
theorem limbs_nilY : Limbs [] := fun x hx => by cases hx
theorem one97_wf (o : List UInt8) : kidsT (one97 o) = [] ∧ Limbs (limT (one97 o)) ∧ kindT (one97 o) = 1 := by
  unfold one97
  split
  · exact ⟨rfl, limbs_digs _, rfl⟩
  · exact ⟨rfl, limbs_nilY, rfl⟩
theorem raw98_wf (o : Option (List UInt8)) : kidsT (raw98 o) = [] ∧ Limbs (limT (raw98 o)) ∧ kindT (raw98 o) = 1 := by
  cases o with
  | none => exact ⟨rfl, limbs_nilY, rfl⟩
  | some x => exact ⟨rfl, limbs_digs _, rfl⟩
theorem raw110_wf (o : Option (List UInt8)) : kidsT (raw110 o) = [] ∧ Limbs (limT (raw110 o)) ∧ kindT (raw110 o) = 1 := by
  refine ⟨rfl, ?_, rfl⟩
  show Limbs (bigR (o.getD [])).2.2
  unfold bigR
  split
  · exact limbs_nilY
  · exact limR_limbs _ _ _
theorem plain_is (bs : List UInt8) (s : RS) (tag fr : Nat) (htag : tag = 97 ∨ tag = 98 ∨ tag = 110 ∨ tag = 119 ∨ tag = 109 ∨ tag = 106) : ∃ p r, plainR bs s tag fr = finR bs fr (p, r) ∧ kidsT p = [] ∧ Limbs (limT p) ∧ r.tm = s.tm ∧ s.i ≤ r.i := by
  rcases htag with rfl | rfl | rfl | rfl | rfl | rfl
  · exact ⟨_, _, plainF_97 bs s fr, (one97_wf _).1, (one97_wf _).2.1, takeR_mono.2, takeR_mono.1⟩
  · exact ⟨_, _, plainF_98 bs s fr, (raw98_wf _).1, (raw98_wf _).2.1, takeR_mono.2, takeR_mono.1⟩
  · exact ⟨_, _, plainF_110 bs s fr, (raw110_wf _).1, (raw110_wf _).2.1, takeR_mono.2.trans manyR_mono.2, Nat.le_trans manyR_mono.1 takeR_mono.1⟩
  · exact ⟨_, _, plainF_119 bs s fr, rfl, limbs_nilY, takeR_mono.2.trans manyR_mono.2, Nat.le_trans manyR_mono.1 takeR_mono.1⟩
  · exact ⟨_, _, plainF_109 bs s fr, rfl, limbs_nilY, takeR_mono.2.trans manyR_mono.2, Nat.le_trans manyR_mono.1 takeR_mono.1⟩
  · exact ⟨_, _, plainF_106 bs s fr, rfl, limbs_nilY, rfl, Nat.le_refl _⟩
theorem listT_put : ∀ (xs : List T) (x : T), kindT x ≠ 4 → (putA (listT xs x)).2.1 = putAll xs ++ putB x ∧ (putA (listT xs x)).2.2 = xs.length
  | [], x, h => by
    rw [show listT [] x = x from rfl, putA_no x h]
    exact ⟨by simp [putAll], rfl⟩
  | a :: xs, x, h => by
    obtain ⟨h1, h2⟩ := listT_put xs x h
    simp only [listT, consT, putA, if_true, putP, putQ, putN, h1, h2, List.length_cons]
    refine ⟨?_, trivial⟩
    simp only [putAll, List.flatMap_cons, putB, List.append_assoc]
theorem listT_nod : ∀ (xs : List T) (x : T), nodT (listT xs x) = xs.length + nodK xs + nodT x
  | [], x => by simp [listT, nodK]
  | a :: xs, x => by
    have := listT_nod xs x
    simp only [listT, consT, nodT, nodK, List.length_cons, this]
    omega
theorem listT_okD : ∀ (xs : List T) (x : T) (deep : Int), deep ≤ 60 → (∀ t ∈ xs, okD t (deep + 1)) → okD x deep → okD (listT xs x) deep
  | [], x, deep, _, _, h => h
  | a :: xs, x, deep, hd, h1, h2 => by
    have ih := listT_okD xs x deep hd (fun t ht => h1 t (by simp [ht])) h2
    simp only [listT, consT, okD, okJ, and_true]
    refine ⟨hd, by simp [ownT, zeroB], ?_, ?_⟩
    · simpa using h1 a (by simp)
    · simpa using ih
theorem listT_wf : ∀ (xs : List T) (x : T), (∀ t ∈ xs, wfT t) → wfT x → wfT (listT xs x)
  | [], x, _, h => h
  | a :: xs, x, h1, h2 => by
    have ih := listT_wf xs x (fun t ht => h1 t (by simp [ht])) h2
    simp only [listT, consT, wfT, wfK, and_true]
    exact ⟨limbs_nilY, h1 a (by simp), ih⟩
theorem listT_kind (a : T) (xs : List T) (x : T) : kindT (listT (a :: xs) x) = 4 := rfl
theorem okJ_of : ∀ (ks : List T) (i : Nat) (d : Int), (∀ t ∈ ks, okD t (d + 1)) → okJ 5 ks i d
  | [], _, _, _ => by simp [okJ]
  | a :: r, i, d, h => by
    simp only [okJ]
    exact ⟨by rw [if_neg (by omega)]; exact h a (by simp), okJ_of r (i + 1) d (fun t ht => h t (by simp [ht]))⟩
theorem wfK_of : ∀ (ks : List T), (∀ t ∈ ks, wfT t) → wfK ks
  | [], _ => by simp [wfK]
  | a :: r, h => by simp only [wfK]; exact ⟨h a (by simp), wfK_of r (fun t ht => h t (by simp [ht]))⟩
structure OneR (bs : List UInt8) (deep : Int) (s : RS) (x : T) (s' : RS) : Prop where
  ok : okD x deep
  wf : wfT x
  tm : s'.tm = s.tm + nodT x
  put : putB x = sliR bs s.i s'.i
theorem some_one {bs : List UInt8} {rd : RS → T × RS} {deep : Int} {lo : Nat} (H : ∀ s, InvR bs s → lo ≤ s.i → (rd s).2.e = 0 → OneR bs deep s (rd s).1 (rd s).2) (Hi : ∀ s, InvR bs s → InvR bs (rd s).2 ∧ s.i ≤ (rd s).2.i) : ∀ (n : Nat) (s : RS) (acc : List T), InvR bs s → lo ≤ s.i → (someR rd n s acc).2.e = 0 →
    ∃ xs, (someR rd n s acc).1 = acc ++ xs ∧ xs.length = n ∧ (∀ t ∈ xs, okD t deep ∧ wfT t) ∧ (someR rd n s acc).2.tm = s.tm + nodK xs ∧ putAll xs = sliR bs s.i (someR rd n s acc).2.i
  | 0, s, acc, _, _, _ => ⟨[], by simp [someR], rfl, fun t ht => (by cases ht), by simp [someR, nodK], by simp [someR, sli_self, putAll]⟩
  | n + 1, s, acc, hs, hlo, h => by
    have hi1 := Hi s hs
    simp only [someR] at h ⊢
    by_cases h1 : (rd s).2.e ≠ 0
    · rw [if_pos h1] at h; exact absurd h h1
    · rw [if_neg h1] at h ⊢
      have h1' : (rd s).2.e = 0 := by simpa using h1
      have o := H s hs hlo h1'
      obtain ⟨xs, g1, g2, g3, g4, g5⟩ := some_one H Hi n (rd s).2 (acc ++ [(rd s).1]) hi1.1 (by omega) h
      have hmono := (someR_inv Hi n (rd s).2 (acc ++ [(rd s).1]) hi1.1).2
      refine ⟨(rd s).1 :: xs, by rw [g1, List.append_assoc]; rfl, by rw [List.length_cons, g2], fun t ht => ?_, ?_, ?_⟩
      · rcases List.mem_cons.1 ht with rfl | ht
        · exact ⟨o.ok, o.wf⟩
        · exact g3 t ht
      · rw [g4, o.tm]; simp only [nodK]; omega
      · rw [sli_app bs hi1.2 hmono, ← g5, ← o.put]
        simp only [putAll, List.flatMap_cons]
theorem one_ok (bs : List UInt8) : ∀ (f : Nat) (deep : Int) (s : RS), InvR bs s → bs.length < s.i + f → (termR bs f deep s).2.e = 0 → OneR bs deep s (termR bs f deep s).1 (termR bs f deep s).2
  | 0, deep, s, hs, hf, _ => by have := hs.i; omega
  | f + 1, deep, s, hs, hf, h => by
    have ht1 : (takeR bs s 1).2.e = 0 := by
      rcases Classical.em ((takeR bs s 1).2.e = 0) with hh | hh
      · exact hh
      · exfalso
        simp only [termR] at h
        rw [if_pos hh] at h
        exact hh h
    obtain ⟨_, he, h4, _⟩ := stepR hs ht1
    obtain ⟨c, hc, _⟩ := take1 h4
    have htm := hs.ok he
    rw [termR_step hs ht1 f deep hc] at h ⊢
    have hno : ¬ (s.tm + 1 > 2000 ∨ deep > 60) := fun hh => by
      unfold tagR at h
      dsimp only at h
      rw [if_pos hh] at h
      cases h
    have hs1 : InvR bs ⟨s.i + 1, s.tm + 1, 0⟩ := ⟨h4, hs.len, by dsimp only; omega, by dsimp only; omega, fun _ => by dsimp only; omega⟩
    have hc1 : sliR bs s.i (s.i + 1) = [c] := by rw [sliR, show s.i + 1 - s.i = 1 by omega]; exact hc
    have hcc : ∀ m : Nat, m < 256 → c.toNat = m → c = UInt8.ofNat m := fun m hm h => by
      apply UInt8.toNat_inj.1
      rw [h, UInt8.toNat_ofNat']; omega
    have IH := fun d s hs (hlo : s.i + 1 ≤ s.i) => one_ok bs f d s hs
    have I := fun d s hs => termR_inv bs f d s hs
    have O := fun d (s' : RS) (hs' : InvR bs s') (hlo : s.i + 1 ≤ s'.i) hh => one_ok bs f d s' hs' (by omega) hh
    clear IH
    generalize htag : c.toNat = tag at h hcc ⊢
    unfold tagR at h ⊢
    dsimp only at h ⊢
    rw [if_neg hno] at h ⊢
    by_cases hp : tag = 97 ∨ tag = 98 ∨ tag = 110 ∨ tag = 119 ∨ tag = 109 ∨ tag = 106
    · rw [if_pos hp] at h ⊢
      obtain ⟨p, r, e, k1, k2, k3, k4⟩ := plain_is bs ⟨s.i + 1, s.tm + 1, 0⟩ tag s.i hp
      rw [e] at h ⊢
      obtain ⟨e1, e2⟩ := endR_e h
      obtain ⟨e3, e4⟩ := endR_ok h
      simp only [finR]
      rw [e2]
      obtain ⟨k, b, lg, l, t, m, kg, ks⟩ := p
      have : ks = [] := k1
      subst this
      refine ⟨?_, ?_, ?_, e3⟩
      · simp only [okD, okJ, and_true]; exact ⟨by omega, e4⟩
      · simp only [wfT, wfK, and_true]; exact k2
      · rw [k3]; simp only [nodT, nodK]; omega
    · rw [if_neg hp] at h ⊢
      by_cases h108 : tag = 108
      · rw [if_pos h108] at h ⊢
        obtain ⟨h1, h2⟩ := list_e h
        rw [listR_ok rfl rfl rfl h2]
        dsimp only at h1 h2 ⊢
        have hbm := bumpR_inv hs1 (by dsimp only; omega)
        have hsm := someR_inv (I (deep + 1)) (manyR bs ⟨s.i + 1, s.tm + 1, 0⟩ 4 1 (2001 - (s.tm + 1))).1.toNat _ [] hbm.1
        have hse : (someR (termR bs f (deep + 1)) (manyR bs ⟨s.i + 1, s.tm + 1, 0⟩ 4 1 (2001 - (s.tm + 1))).1.toNat (bumpR (manyR bs ⟨s.i + 1, s.tm + 1, 0⟩ 4 1 (2001 - (s.tm + 1)))) []).2.e = 0 := termR_e h1
        have hme : (manyR bs ⟨s.i + 1, s.tm + 1, 0⟩ 4 1 (2001 - (s.tm + 1))).2.e = 0 := someR_z (fun s h => termR_e h) _ (bumpR (manyR bs ⟨s.i + 1, s.tm + 1, 0⟩ 4 1 (2001 - (s.tm + 1)))) _ hse
        obtain ⟨m1, m2, m3, _, m5, m6⟩ := many_sli hme
        obtain ⟨xs, g1, g2, g3, g4, g5⟩ := some_one (O (deep + 1)) (I (deep + 1)) _ _ [] hbm.1 hbm.2 hse
        have o := O deep _ hsm.1 (Nat.le_trans hbm.2 hsm.2) h1
        have hti := (I deep _ hsm.1).2
        obtain ⟨m, hm⟩ : ∃ m, manyR bs ⟨s.i + 1, s.tm + 1, 0⟩ 4 1 (2001 - (s.tm + 1)) = m := ⟨_, rfl⟩
        dsimp only at m3
        rw [hm] at m1 m2 m5 m6 g1 g2 g4 g5 o h1 h2 hbm hsm hti ⊢
        obtain ⟨hh, hhq⟩ : ∃ hh, someR (termR bs f (deep + 1)) m.1.toNat (bumpR m) [] = hh := ⟨_, rfl⟩
        rw [hhq] at g1 g4 g5 o h1 h2 hsm hti ⊢
        obtain ⟨t, ht⟩ : ∃ t, termR bs f deep hh.2 = t := ⟨_, rfl⟩
        rw [ht] at o h1 h2 hti ⊢
        rw [List.nil_append] at g1
        have hbi : (bumpR m).i = s.i + 1 + 4 := by show m.2.i = _; rw [m2]
        have hbt : (bumpR m).tm = s.tm + 1 + (m.1 - 1) := by show m.2.tm + _ = _; rw [m2]
        rw [g1]
        have hpos : 1 ≤ xs.length := by omega
        refine ⟨listT_okD _ _ _ (by omega) (fun t ht => (g3 t ht).1) o.ok, listT_wf _ _ (fun t ht => (g3 t ht).2) o.wf, ?_, ?_⟩
        · rw [o.tm, g4, hbt, listT_nod]; omega
        · cases xs with
          | nil => simp at hpos
          | cons a xs =>
            obtain ⟨p1, p2⟩ := listT_put (a :: xs) t.1 h2
            rw [putB_list _ (listT_kind a xs _), p1, p2, g5, o.put, hbi]
            have hl4 : (sliR bs (s.i + 1) (s.i + 1 + 4)).length = 4 := sli_len m3
            have hb32 : be32 (((a :: xs).length : Nat) : Int) = sliR bs (s.i + 1) (s.i + 1 + 4) := by
              rw [← be32_beV _ hl4, ← m1]
              congr 1
              omega
            rw [hb32]
            have hh1 : s.i + 1 + 4 ≤ hh.2.i := by rw [← hbi]; exact hsm.2
            rw [sli_app bs (show s.i ≤ s.i + 1 by omega) (show s.i + 1 ≤ t.2.i by omega), hc1, sli_app bs (show s.i + 1 ≤ s.i + 1 + 4 by omega) (show s.i + 1 + 4 ≤ t.2.i by omega), sli_app bs hh1 hti, hcc 108 (by decide) h108]
            rfl
      · rw [if_neg h108] at h ⊢
        by_cases h104 : tag = 104
        · rw [if_pos h104] at h ⊢
          dsimp only at h ⊢
          have hm := hs1.many (k := 1) (a := 0) (b := 40)
          have hmo := (manyR_mono (bs := bs) (s := ⟨s.i + 1, s.tm + 1, 0⟩) (k := 1) (a := 0) (b := 40)).1
          have hsm := someR_inv (I (deep + 1)) (manyR bs ⟨s.i + 1, s.tm + 1, 0⟩ 1 0 40).1.toNat _ [] hm
          have hme : (manyR bs ⟨s.i + 1, s.tm + 1, 0⟩ 1 0 40).2.e = 0 := someR_z (fun s h => termR_e h) _ _ _ h
          obtain ⟨m1, m2, m3, _, m5, m6⟩ := many_sli hme
          obtain ⟨xs, g1, g2, g3, g4, g5⟩ := some_one (O (deep + 1)) (I (deep + 1)) _ _ [] hm hmo h
          obtain ⟨m, hmq⟩ : ∃ m, manyR bs ⟨s.i + 1, s.tm + 1, 0⟩ 1 0 40 = m := ⟨_, rfl⟩
          dsimp only at m3
          rw [hmq] at m1 m2 m5 m6 g1 g2 g4 g5 hsm ⊢
          obtain ⟨hh, hhq⟩ : ∃ hh, someR (termR bs f (deep + 1)) m.1.toNat m.2 [] = hh := ⟨_, rfl⟩
          rw [hhq] at g1 g4 g5 hsm ⊢
          rw [List.nil_append] at g1
          rw [g1]
          have hmi : m.2.i = s.i + 1 + 1 := by rw [m2]
          have hmt : m.2.tm = s.tm + 1 := by rw [m2]
          refine ⟨?_, ?_, ?_, ?_⟩
          · simp only [okD, tupT]
            refine ⟨by omega, ?_, okJ_of _ _ _ (fun t ht => (g3 t ht).1)⟩
            simp [ownT, zeroB]; omega
          · simp only [wfT, tupT]
            exact ⟨limbs_nilY, wfK_of _ (fun t ht => (g3 t ht).2)⟩
          · rw [g4, hmt]; simp only [nodT, tupT]; omega
          · rw [tupT, putB_5, g5, hmi]
            have hl1 : (sliR bs (s.i + 1) (s.i + 1 + 1)).length = 1 := sli_len m3
            have hb1 : [u8 ((xs.length : Nat) : Int)] = sliR bs (s.i + 1) (s.i + 1 + 1) := by
              rw [← u8_beV _ hl1, ← m1]
              congr 2
              omega
            have hh1 : s.i + 1 + 1 ≤ hh.2.i := by rw [← hmi]; exact hsm.2
            rw [sli_app bs (show s.i ≤ s.i + 1 by omega) (show s.i + 1 ≤ hh.2.i by omega), hc1, sli_app bs (show s.i + 1 ≤ s.i + 1 + 1 by omega) hh1, ← hb1, hcc 104 (by decide) h104]
            rfl
        · rw [if_neg h104] at h
          cases h
end Go.Ab

/- ext.Get of any bytes; what is wrong with bytes that are none (CFG5). Conditions: lengths in range. -/
namespace Go.Ab
open Go.Proofs
set_option maxRecDepth 100000
set_option linter.unusedSimpArgs false

def errR (e : Int) : Prop := e = 0 ∨ e = 3 ∨ e = 4
theorem err_fail {s : RS} {e : Int} (h : errR s.e) (he : e = 3 ∨ e = 4) : errR (s.fail e).e := by
  unfold RS.fail
  split
  · rcases he with rfl | rfl
    · exact .inr (.inl rfl)
    · exact .inr (.inr rfl)
  · exact h
theorem err_take {bs : List UInt8} {s : RS} {n : Nat} (h : errR s.e) : errR (takeR bs s n).2.e := by
  unfold takeR
  split
  · exact err_fail h (.inl rfl)
  · exact h
theorem err_many {bs : List UInt8} {s : RS} {n : Nat} {a b : Int} (h : errR s.e) : errR (manyR bs s n a b).2.e := by
  have h1 := err_take (bs := bs) (n := n) h
  unfold manyR
  dsimp only
  split
  · exact h1
  · split
    · exact err_fail h1 (.inr rfl)
    · exact h1
theorem err_end {bs : List UInt8} {r : RS} {p : T} {fr : Nat} (h : errR r.e) : errR (endR bs r p fr).e := by
  unfold endR
  split
  · exact err_fail h (.inr rfl)
  · exact h
theorem err_plain {bs : List UInt8} {s : RS} {tag fr : Nat} (h : errR s.e) (htag : tag = 97 ∨ tag = 98 ∨ tag = 110 ∨ tag = 119 ∨ tag = 109 ∨ tag = 106) : errR (plainR bs s tag fr).2.e := by
  rcases htag with rfl | rfl | rfl | rfl | rfl | rfl
  · exact err_end (err_take h)
  · exact err_end (err_take h)
  · exact err_end (err_take (err_many h))
  · exact err_end (err_take (err_many h))
  · exact err_end (err_take (err_many h))
  · exact err_end h
theorem err_some {rd : RS → T × RS} (H : ∀ s, errR s.e → errR (rd s).2.e) : ∀ (n : Nat) (s : RS) (acc : List T), errR s.e → errR (someR rd n s acc).2.e
  | 0, s, acc, h => h
  | n + 1, s, acc, h => by
    simp only [someR]
    split
    · exact H s h
    · exact err_some H n _ _ (H s h)
theorem err_term (bs : List UInt8) : ∀ (f : Nat) (deep : Int) (s : RS), errR s.e → errR (termR bs f deep s).2.e
  | 0, deep, s, h => h
  | f + 1, deep, s, h => by
    have h1 := err_take (bs := bs) (n := 1) h
    simp only [termR]
    split
    · exact h1
    · split
      · exact err_fail h1 (.inr rfl)
      · split
        · rename_i hp; exact err_plain h1 hp
        · split
          · have hs := err_some (err_term bs f (deep + 1)) (manyR bs ⟨(takeR bs s 1).2.i, (takeR bs s 1).2.tm + 1, (takeR bs s 1).2.e⟩ 4 1 (2001 - ((takeR bs s 1).2.tm + 1))).1.toNat ⟨(manyR bs ⟨(takeR bs s 1).2.i, (takeR bs s 1).2.tm + 1, (takeR bs s 1).2.e⟩ 4 1 (2001 - ((takeR bs s 1).2.tm + 1))).2.i, (manyR bs ⟨(takeR bs s 1).2.i, (takeR bs s 1).2.tm + 1, (takeR bs s 1).2.e⟩ 4 1 (2001 - ((takeR bs s 1).2.tm + 1))).2.tm + ((manyR bs ⟨(takeR bs s 1).2.i, (takeR bs s 1).2.tm + 1, (takeR bs s 1).2.e⟩ 4 1 (2001 - ((takeR bs s 1).2.tm + 1))).1 - 1), (manyR bs ⟨(takeR bs s 1).2.i, (takeR bs s 1).2.tm + 1, (takeR bs s 1).2.e⟩ 4 1 (2001 - ((takeR bs s 1).2.tm + 1))).2.e⟩ [] (err_many h1)
            have ht := err_term bs f deep _ hs
            dsimp only
            split
            · exact err_fail ht (.inr rfl)
            · exact ht
          · split
            · exact err_some (err_term bs f (deep + 1)) _ _ _ (err_many h1)
            · exact err_fail h1 (.inr rfl)
theorem getR_one (bs : List UInt8) (hl : bs.length ≤ 1000000000000) : ((getR bs 0).2.2 = 0 ∧ ∃ m : Nat, (getR bs 0).2.1 = m ∧ m ≤ bs.length ∧ okD (getR bs 0).1 1 ∧ wfT (getR bs 0).1 ∧ nodT (getR bs 0).1 ≤ 2000 ∧ putB (getR bs 0).1 = bs.take m) ∨ (((getR bs 0).2.2 = 3 ∨ (getR bs 0).2.2 = 4) ∧ (getR bs 0).2.1 = 0 ∧ (getR bs 0).1 = T0) := by
  unfold getR
  rw [if_neg (fun hh => by rcases hh with hh | hh <;> omega)]
  dsimp only
  have hs : InvR bs ⟨(0 : Int).toNat, 0, 0⟩ := ⟨Nat.zero_le _, hl, by decide, by decide, fun _ => by decide⟩
  have herr := err_term bs (bs.length + 2) 1 ⟨(0 : Int).toNat, 0, 0⟩ (.inl rfl)
  by_cases he : (termR bs (bs.length + 2) 1 ⟨(0 : Int).toNat, 0, 0⟩).2.e = 0
  · rw [if_neg (fun h => h he)]
    have o := one_ok bs (bs.length + 2) 1 ⟨(0 : Int).toNat, 0, 0⟩ hs (by dsimp only; omega) he
    have hi := termR_inv bs (bs.length + 2) 1 ⟨(0 : Int).toNat, 0, 0⟩ hs
    refine .inl ⟨rfl, _, rfl, hi.1.i, o.ok, o.wf, ?_, ?_⟩
    · have h1 := o.tm
      have h2 := (hi.1.ok he).2
      dsimp only at h1 ⊢
      omega
    · have := o.put
      simpa [sliR] using this
  · rw [if_pos he]
    refine .inr ⟨?_, rfl, rfl⟩
    rcases herr with h | h | h
    · exact absurd h he
    · exact .inl h
    · exact .inr h
theorem get_any (n D : Nat) (hn : 2200 ≤ n) (bs : List UInt8) (g : Grip) (hg : g = .tight ∨ g = .loose ∨ g = .nil) (hl : bs.length ≤ 1000000000000) (hD : 3 * (bs.length + 2) + 6030 ≤ D) (at_ : Int) :
    evalFn Try.prog cfg5 n (D+1) 13 [.tree (.sl (cellsOfBytes bs) bs.length g), .tree (.int .i64 at_)] = some (.tree (outG (getR bs at_)), [[], []]) :=
  get_eq n D hn bs g hg hl hD (fun _ D hD => by
    obtain ⟨E, rfl⟩ : ∃ E, D = E + 1 := ⟨D - 1, by omega⟩
    exact big_eq n E (by omega)) at_
end Go.Ab

/- The statements' copy of bytes. Conditions: lengths in range. -/
namespace Go.Ab
open Go.Proofs
set_option maxRecDepth 100000
set_option linter.unusedSimpArgs false
theorem rBytesY_eq (n d : Nat) (b : List UInt8) (g : Grip) (hg : g.isTok = false) (hl : b.length ≤ 100000000000000) : evalFn Try.prog cfg0 n (d+1) 17 [.tree (.sl (cellsOfBytes b) b.length g)] = some (.tree (.sl (cellsOfBytes b) b.length .loose), [[]]) := by
  rw [evalFn_go _ Try.func17 (by unfold Try.f17; rfl) (by unfold Try.f17; decide) (Nat.le_of_ble_eq_true (by unfold Try.f17; rfl)) (by kernel_rfl)]
  have e0 : env0 [.tree (.sl (cellsOfBytes b) b.length g)] 0 = .sl (cellsOfBytes b) b.length g := rfl
  have ho : ∀ s', outsA s' 0 [.tree (.sl (cellsOfBytes b) b.length g)] = some [[]] := fun s' => rfl
  generalize [Arg.tree (.sl (cellsOfBytes b) b.length g)] = as1 at e0 ho
  generalize env0 as1 = env at e0
  generalize st0 as1 = st
  have hz : (zeroOf Try.prog 5).map List.length = some 1 := by rw [zeroB8]; rfl
  have ap : ∀ s D, appendA Try.prog #[22, 22] D s (.sl [] 0 .nil) (.sl (cellsOfBytes b) b.length g) = some (.sl (cellsOfBytes b) b.length (.tok D ((s D).t + 1)), upd s D ⟨(s D).t + 1, .tok 1⟩) := fun s D => by
    have e1 : (#[22, 22] : Array TypeId)[0]? = some 22 := rfl
    have e2 : (#[22, 22] : Array TypeId)[1]? = some 22 := rfl
    have hm : ∀ s, moreA Try.prog 5 1 (some 22) s (.sl (cellsOfBytes b) b.length g) = some (cellsOfBytes b, b.length) := fun s => by
      simp only [moreA, Option.map_some, tkB, cB_len, Nat.mul_one, if_true]
    simp only [appendA, e1, e2, Option.map_some, tkB, eszB, Option.bind_some, hm, baseA, List.length_nil, Nat.zero_mul, if_true, byB, List.nil_append, Nat.zero_add]
    rw [if_pos ⟨by omega, by omega, hz⟩]
  simp only [simB, zbo, Nat.reduceBEq, own0, ↓reduceIte, Nat.reduceEqDiff, Nat.reduceAdd, simA, simL, simN, Nat.zero_add, e0, ap]
  exact finish_tok _ rfl _ _ _ _ _ _ (by simp only [zfk, ↓reduceIte, Nat.reduceEqDiff]; try rfl) (ho _)
end Go.Ab

/- ExtOne gives true (CFG5). No conditions. -/
namespace Go.Ab
open Go.Proofs
set_option maxRecDepth 100000
set_option linter.unusedSimpArgs false

mutual
theorem okD_big (R : Nat) (hR : 400 < R) : ∀ (t : T) (d : Int), okD t d → wfT t → bigT R t
  | .mk k b lg l s n kg ks, d, h, hw => by
    simp only [okD] at h
    simp only [wfT] at hw
    simp only [bigT]
    exact ⟨hw.1, by have := own_str h.2.1; omega, okJ_big R hR k ks 0 d h.2.2 hw.2⟩
theorem okJ_big (R : Nat) (hR : 400 < R) (k : Int) : ∀ (ks : List T) (i : Nat) (d : Int), okJ k ks i d → wfK ks → bigK R ks
  | [], _, _, _, _ => by simp only [bigK]
  | t :: r, i, d, h, hw => by
    simp only [okJ] at h
    simp only [wfK] at hw
    simp only [bigK]
    exact ⟨okD_big R hR t _ h.1 hw.1, okJ_big R hR k r (i + 1) d h.2 hw.2⟩
end
theorem ldY_cI (t k : Nat) (u : T) : ldE Try.prog 3 ⟨t, .buf (cellsT u)⟩ k 0 = if t = k then some (.int .i64 (kindT u)) else none := by
  obtain ⟨a, b, c, d, e, f, g, h⟩ := u
  simp only [cellsT, kindT]
  exact ldT_0 _ _ _ _ _ _ _ _
theorem slTo (s : St) (x : List UInt8) (g : Grip) (m : Nat) (h : m ≤ x.length) : ∃ g', sliceA Try.prog 22 s (.sl (cellsOfBytes x) x.length g) none (some (.int .i64 (m : Int))) none = some (.sl (cellsOfBytes (x.take m)) (x.take m).length g') := by
  have hx : (cellsOfBytes x).length = x.length * 1 := by simp [cellsOfBytes]
  have a1 : (0 : Int) ≤ (m : Int) ∧ (m : Int) ≤ (x.length : Nat) := ⟨by omega, by omega⟩
  have hl : (x.take m).length = m := by rw [List.length_take]; omega
  simp only [sliceA, tkB, eszB, Option.isSome_none, Bool.false_eq_true, false_and, if_false, boundA, Option.bind_some, hx, if_true, a1, and_self, Int.toNat_natCast, Nat.mul_one, Nat.zero_mul, List.drop_zero, Nat.sub_zero, cB_take, hl]
  exact ⟨_, rfl⟩
set_option maxHeartbeats 8000000 in
theorem extOne_eq (n D : Nat) (hn : 2200 ≤ n) (hD : 30000 ≤ D) (b : List UInt8) :
    evalFn Try.prog cfg5 n (D+3) 5 [.tree (.sl (cellsOfBytes b) b.length .loose)] = some (.tree (.bool true), [[]]) := by
  rw [evalFn_go _ Try.func5 (by unfold Try.f5; rfl) (by unfold Try.f5; decide) (Nat.le_of_ble_eq_true (by unfold Try.f5; rfl)) (by kernel_rfl)]
  have e0 : env0 [.tree (.sl (cellsOfBytes b) b.length .loose)] 0 = .sl (cellsOfBytes b) b.length .loose := rfl
  have j3 : (st0 [.tree (.sl (cellsOfBytes b) b.length .loose)] 3).t = 0 := rfl
  have ho : ∀ s, outsA s 0 [.tree (.sl (cellsOfBytes b) b.length .loose)] = some [[]] := fun s => rfl
  generalize [Arg.tree (.sl (cellsOfBytes b) b.length .loose)] = as1 at e0 j3 ho
  generalize env0 as1 = env at e0
  generalize st0 as1 = st at j3
  have wa := fun D' st => callA_trees (cfg := cfg5) (d := D') (s := st) (f := 9) (vs := []) rfl (evalFn_mono hn 20 (D+2) (by omega) _ _ _ awake5_eq)
  have wq := callQ_trees (f := 9) (vs := []) rfl (evalFn_mono hn 20 (D+2) (by omega) _ _ _ awake5_eq)
  by_cases hl : (b.length : Int) > 5000
  · simp only [simB, keep5, Nat.reduceBEq, own5, String.reduceAppend, String.reduceBEq, Bool.or_false, Bool.or_true, Bool.or_self, ↓reduceIte, Nat.reduceEqDiff, Nat.reduceAdd, simA, simL, simN, Nat.zero_add, e0, lenB, y_gtr, hl, wa]
    exact finish_b _ _ _ _ _ _ _ (by simp only [zfk, ↓reduceIte, Nat.reduceEqDiff]; try rfl) (ho _)
  · have cb := fun D' st => callA_trees (cfg := cfg5) (d := D') (s := st) (f := 17) (vs := [.sl (cellsOfBytes b) b.length .loose]) rfl (ev5 (n := n) (d := D+1) rfl (rBytesY_eq 9223372036854775808 6189 b .loose rfl (by omega)))
    have cg := fun D' st => callA_trees (cfg := cfg5) (d := D') (s := st) (f := 13) (vs := [.sl (cellsOfBytes b) b.length .loose, .int .i64 0]) rfl (get_any n (D+1) hn b .loose (.inr (.inl rfl)) (by omega) (by omega) 0)
    have h1 := getR_one b (by omega)
    obtain ⟨w, hw⟩ : ∃ w, getR b 0 = w := ⟨_, rfl⟩
    rw [hw] at cg h1
    obtain ⟨u, i, e⟩ := w
    dsimp only at h1
    simp only [outG, encT] at cg
    have st1 := fun s p k' => st_Tt s p k' u
    have s61 := fun t k' p st => stT_6 t k' p st (.int .i64 0) (.bool false) (.sl [] 0 .nil) (.str []) (.int .i64 0) (.sl [] 0 .nil) u
    rcases h1 with ⟨rfl, m, rfl, hm, hok, hwf, hnod, hput⟩ | ⟨he, rfl, rfl⟩
    · have q1 : ((0 : Int) != 0) = false := rfl
      have q2 : (m : Int) ≤ (b.length : Int) := by omega
      have hbig := okD_big 9223372036854775808 (by decide) u 1 hok hwf
      have hck := rCheck_eq 9223372036854775808 (by decide) (Nat.le_refl _) 4185 u hbig
      have hrw := okD_rw u 1 0 hok (by decide) (by omega)
      have hge : rwT u 1 0 ≥ 0 := by omega
      rw [decide_eq_true hge] at hck
      have cc := callQ_trees (f := 16) (vs := [encT u]) rfl (ev5 (n := n) (d := D+1) rfl hck)
      have hchk : (chkT u 1 2000).1 = true := by rw [okD_chk u 1 2000 hok (by omega)]
      have hpl : (putB u).length ≤ 5000 := by rw [hput, List.length_take]; omega
      have cp := callQ_trees (f := 10) (vs := [.sl (cellsOfBytes []) ([] : List UInt8).length .nil, encT u]) rfl (ePut_ok n (D+1) [] .nil u hchk hwf hn (by omega) (by simp only [List.length_nil]; omega))
      simp only [encT] at cc cp
      rw [List.nil_append] at cp
      have cp : callQ (evalFn Try.prog cfg5 n (D+2)) 10 [.sl [] 0 .nil, .agg (cellsT u)] = some (.sl (cellsOfBytes (putB u)) (putB u).length .loose) := cp
      obtain ⟨g', hsl0⟩ := slTo dead b .loose m hm
      have hsl : ∀ s, sliceA Try.prog 22 s (.sl (cellsOfBytes b) b.length .loose) none (some (.int .i64 (m : Int))) none = some (.sl (cellsOfBytes (b.take m)) (b.take m).length g') := fun s => hsl0
      rw [← hput] at hsl
      have hss : (putB u == putB u) = true := by simp
      simp only [simB, keep5, Nat.reduceBEq, own5, String.reduceAppend, String.reduceBEq, Bool.or_false, Bool.or_true, Bool.or_self, ↓reduceIte, Nat.reduceEqDiff, Nat.reduceAdd, simA, simL, simN, Nat.zero_add, e0, lenB, y_gtr, y_neq, y_leq, hl, cb, cg, zdu, j3, zeroT, st1, s61, q1, q2, ldT_u, cc, cp, hsl, zdp, convBS, s_eqlS, hss, wq]
      exact finish_b _ _ _ _ _ _ _ (by simp only [zfk, ↓reduceIte, Nat.reduceEqDiff]; try rfl) (ho _)
    · have k0 : kindT T0 = 0 := rfl
      rcases he with rfl | rfl
      · have q1 : ((3 : Int) != 0) = true := rfl
        have q2 : ((3 : Int) == 3) = true := rfl
        have q3 : ((0 : Int) == 0) = true := rfl
        simp only [simB, keep5, Nat.reduceBEq, own5, String.reduceAppend, String.reduceBEq, Bool.or_false, Bool.or_true, Bool.or_self, ↓reduceIte, Nat.reduceEqDiff, Nat.reduceAdd, simA, simL, simN, Nat.zero_add, e0, lenB, y_gtr, y_neq, y_eql, y_leq, hl, cb, cg, zdu, j3, zeroT, st1, s61, faT_0, ldY_cI, k0, q1, q2, q3, wa]
        exact finish_b _ _ _ _ _ _ _ (by simp only [zfk, ↓reduceIte, Nat.reduceEqDiff]; try rfl) (ho _)
      · have q1 : ((4 : Int) != 0) = true := rfl
        have q2 : ((4 : Int) == 3) = false := rfl
        have q4 : ((4 : Int) == 4) = true := rfl
        have q3 : ((0 : Int) == 0) = true := rfl
        simp only [simB, keep5, Nat.reduceBEq, own5, String.reduceAppend, String.reduceBEq, Bool.or_false, Bool.or_true, Bool.or_self, ↓reduceIte, Nat.reduceEqDiff, Nat.reduceAdd, simA, simL, simN, Nat.zero_add, e0, lenB, y_gtr, y_neq, y_eql, y_leq, hl, cb, cg, zdu, j3, zeroT, st1, s61, faT_0, ldY_cI, k0, q1, q2, q3, q4, wa]
        exact finish_b _ _ _ _ _ _ _ (by simp only [zfk, ↓reduceIte, Nat.reduceEqDiff]; try rfl) (ho _)
end Go.Ab

/- The walk of ExtOne (CFG5): it gives true, and leaves memory below as it was. No conditions. -/
namespace Go.Ab
open Go.Proofs Go.RowKit
theorem prim5_ok : FnOk Try.prog prim5 := fun f xs r os h => by
  unfold prim5 at h
  split at h
  · cases h
  · exact evalFn_ok mixed prim0_ok 9223372036854775808 6190 f xs r os h
theorem walkEOne (a0 : Option Addr) (len0 cap0 : Nat) (z0 : List Int) (w : World) (h0 : IsRow .u8 w a0 len0 cap0 z0) :
    Calls Try.prog 5 #[.slice a0 len0 cap0] w fun e w' => e = .returned (.bool true) ∧ Below w.heap.size w w' := by
  obtain ⟨bs, rfl, hv⟩ := bytesRow h0
  refine lawCallsP (cfg := cfg5) mixed prim5_ok (vs := [.slice a0 bs.length cap0]) (extOne_eq 2200 30000 (Nat.le_refl _) (Nat.le_refl _) bs) rfl (st0_1 _) (fun j v hj => ?_) true rfl
  match j, hj with
  | 0, hj => cases hj; exact ⟨hv, rfl⟩
end Go.Ab
