/- Several texts put together: AbeY37, AbeY38, AbeY39, AbeY40, AbeY44, AbeY45, AbeLawEBack. Conditions: as each part says. -/
import Derived.Test.YticeekdofpdcoaaAbEBackZ07
import Derived.Test.YticeekdofpdcoaaAbEBackZ05
import Derived.Test.YticeekdofpdcoaaAbEBackZ06
/- What was read may be, and is written so: plain mathematics. Conditions: places in range. -/
namespace Go.Ab
open Go.Proofs
set_option maxRecDepth 100000

def sliR (bs : List UInt8) (i j : Nat) : List UInt8 := (bs.drop i).take (j - i)
theorem sli_app (bs : List UInt8) {i j k : Nat} (h1 : i ≤ j) (h2 : j ≤ k) : sliR bs i k = sliR bs i j ++ sliR bs j k := by
  unfold sliR
  rw [show k - i = (j - i) + (k - j) by omega, List.take_add, List.drop_drop, show i + (j - i) = j by omega]
theorem sli_self (bs : List UInt8) (i : Nat) : sliR bs i i = [] := by simp [sliR]
theorem take_sli {bs : List UInt8} {s : RS} {n : Nat} (h : (takeR bs s n).2.e = 0) : (takeR bs s n).1 = some (sliR bs s.i (s.i + n)) ∧ (takeR bs s n).2 = ⟨s.i + n, s.tm, 0⟩ ∧ s.i + n ≤ bs.length ∧ s.e = 0 := by
  obtain ⟨h1, _⟩ := takeR_e h
  have h2 : s.i + n ≤ bs.length := by
    rcases Nat.lt_or_ge bs.length (s.i + n) with hh | hh
    · rw [takeR_short (.inr hh), fail3 h1] at h; cases h
    · exact hh
  rw [takeR_is h1 h2, h1]
  refine ⟨?_, rfl, h2, rfl⟩
  rw [sliR, show s.i + n - s.i = n by omega]
theorem many_sli {bs : List UInt8} {s : RS} {n : Nat} {a b : Int} (h : (manyR bs s n a b).2.e = 0) : (manyR bs s n a b).1 = beV (sliR bs s.i (s.i + n)) 0 ∧ (manyR bs s n a b).2 = ⟨s.i + n, s.tm, 0⟩ ∧ s.i + n ≤ bs.length ∧ s.e = 0 ∧ a ≤ (manyR bs s n a b).1 ∧ (manyR bs s n a b).1 ≤ b := by
  obtain ⟨h1, h2, h3, h4⟩ := manyR_e h
  obtain ⟨h5, h6, h7, h8⟩ := take_sli h1
  refine ⟨?_, by rw [h2, h6], h7, h8, h3, h4⟩
  have h9 := manyR_of2 (a := a) (b := b) (rfl : takeR bs s n = takeR bs s n)
  rw [if_neg (fun hh => hh h1), h5, Option.getD_some] at h9
  split at h9
  · rw [h9] at h; exact absurd h (fail_e _ _ (by decide))
  · rw [h9]
theorem be32_beV (w : List UInt8) (h : w.length = 4) : be32 (beV w 0) = w := by
  match w, h with
  | [a, b, c, d], _ =>
    have ha := a.toNat_lt
    have hb := b.toNat_lt
    have hc := c.toNat_lt
    have hd := d.toNat_lt
    simp only [beV, be32, u8]
    have e : ∀ (x : UInt8) (z : Int), z % 256 = (x.toNat : Int) → UInt8.ofNat (z % 256).toNat = x := fun x z hz => by
      apply UInt8.toNat_inj.1
      rw [hz, Int.toNat_natCast, UInt8.toNat_ofNat']
      have := x.toNat_lt
      omega
    rw [e a _ (by omega), e b _ (by omega), e c _ (by omega), e d _ (by omega)]
theorem u8_beV (w : List UInt8) (h : w.length = 1) : [u8 (beV w 0)] = w := by
  match w, h with
  | [a], _ =>
    have ha := a.toNat_lt
    simp only [beV, u8]
    congr 1
    apply UInt8.toNat_inj.1
    rw [UInt8.toNat_ofNat']
    omega
theorem sli_len {bs : List UInt8} {i n : Nat} (h : i + n ≤ bs.length) : (sliR bs i (i + n)).length = n := by
  rw [sliR, List.length_take, List.length_drop]; omega
theorem endR_ok {bs : List UInt8} {r : RS} {p : T} {fr : Nat} (h : (endR bs r p fr).e = 0) : putB p = sliR bs fr r.i ∧ ownT p = true := by
  obtain ⟨h1, h2⟩ := endR_e h
  rcases Classical.em (putB p = (bs.drop fr).take (r.i - fr) ∧ ownT p = true) with hh | hh
  · exact hh
  · exfalso
    unfold endR at h
    rw [if_pos ⟨h1, hh⟩] at h
    unfold RS.fail at h
    rw [if_pos h1] at h
    cases h
theorem limbs_nilY : Limbs [] := fun x hx => by cases hx
theorem one97_wf (o : List UInt8) : kidsT (one97 o) = [] ∧ Limbs (limT (one97 o)) ∧ kindT (one97 o) = 1 := by
  unfold one97
  split
  · exact ⟨rfl, limbs_digs _, rfl⟩
  · exact ⟨rfl, limbs_nilY, rfl⟩
theorem raw98_wf (o : Option (List UInt8)) : kidsT (raw98 o) = [] ∧ Limbs (limT (raw98 o)) ∧ kindT (raw98 o) = 1 := by
  cases o with
  | none => exact ⟨rfl, limbs_nilY, rfl⟩
  | some x => exact ⟨rfl, limbs_digs _, rfl⟩
theorem raw110_wf (o : Option (List UInt8)) : kidsT (raw110 o) = [] ∧ Limbs (limT (raw110 o)) ∧ kindT (raw110 o) = 1 := by
  refine ⟨rfl, ?_, rfl⟩
  show Limbs (bigR (o.getD [])).2.2
  unfold bigR
  split
  · exact limbs_nilY
  · exact limR_limbs _ _ _
theorem plain_is (bs : List UInt8) (s : RS) (tag fr : Nat) (htag : tag = 97 ∨ tag = 98 ∨ tag = 110 ∨ tag = 119 ∨ tag = 109 ∨ tag = 106) : ∃ p r, plainR bs s tag fr = finR bs fr (p, r) ∧ kidsT p = [] ∧ Limbs (limT p) ∧ r.tm = s.tm ∧ s.i ≤ r.i := by
  rcases htag with rfl | rfl | rfl | rfl | rfl | rfl
  · exact ⟨_, _, plainF_97 bs s fr, (one97_wf _).1, (one97_wf _).2.1, takeR_mono.2, takeR_mono.1⟩
  · exact ⟨_, _, plainF_98 bs s fr, (raw98_wf _).1, (raw98_wf _).2.1, takeR_mono.2, takeR_mono.1⟩
  · exact ⟨_, _, plainF_110 bs s fr, (raw110_wf _).1, (raw110_wf _).2.1, takeR_mono.2.trans manyR_mono.2, Nat.le_trans manyR_mono.1 takeR_mono.1⟩
  · exact ⟨_, _, plainF_119 bs s fr, rfl, limbs_nilY, takeR_mono.2.trans manyR_mono.2, Nat.le_trans manyR_mono.1 takeR_mono.1⟩
  · exact ⟨_, _, plainF_109 bs s fr, rfl, limbs_nilY, takeR_mono.2.trans manyR_mono.2, Nat.le_trans manyR_mono.1 takeR_mono.1⟩
  · exact ⟨_, _, plainF_106 bs s fr, rfl, limbs_nilY, rfl, Nat.le_refl _⟩
theorem listT_put : ∀ (xs : List T) (x : T), kindT x ≠ 4 → (putA (listT xs x)).2.1 = putAll xs ++ putB x ∧ (putA (listT xs x)).2.2 = xs.length
  | [], x, h => by
    rw [show listT [] x = x from rfl, putA_no x h]
    exact ⟨by simp [putAll], rfl⟩
  | a :: xs, x, h => by
    obtain ⟨h1, h2⟩ := listT_put xs x h
    simp only [listT, consT, putA, if_true, putP, putQ, putN, h1, h2, List.length_cons]
    refine ⟨?_, trivial⟩
    simp only [putAll, List.flatMap_cons, putB, List.append_assoc]
theorem listT_nod : ∀ (xs : List T) (x : T), nodT (listT xs x) = xs.length + nodK xs + nodT x
  | [], x => by simp [listT, nodK]
  | a :: xs, x => by
    have := listT_nod xs x
    simp only [listT, consT, nodT, nodK, List.length_cons, this]
    omega
theorem listT_okD : ∀ (xs : List T) (x : T) (deep : Int), deep ≤ 60 → (∀ t ∈ xs, okD t (deep + 1)) → okD x deep → okD (listT xs x) deep
  | [], x, deep, _, _, h => h
  | a :: xs, x, deep, hd, h1, h2 => by
    have ih := listT_okD xs x deep hd (fun t ht => h1 t (by simp [ht])) h2
    simp only [listT, consT, okD, okJ, and_true]
    refine ⟨hd, by simp [ownT, zeroB], ?_, ?_⟩
    · simpa using h1 a (by simp)
    · simpa using ih
theorem listT_wf : ∀ (xs : List T) (x : T), (∀ t ∈ xs, wfT t) → wfT x → wfT (listT xs x)
  | [], x, _, h => h
  | a :: xs, x, h1, h2 => by
    have ih := listT_wf xs x (fun t ht => h1 t (by simp [ht])) h2
    simp only [listT, consT, wfT, wfK, and_true]
    exact ⟨limbs_nilY, h1 a (by simp), ih⟩
theorem listT_kind (a : T) (xs : List T) (x : T) : kindT (listT (a :: xs) x) = 4 := rfl
theorem okJ_of : ∀ (ks : List T) (i : Nat) (d : Int), (∀ t ∈ ks, okD t (d + 1)) → okJ 5 ks i d
  | [], _, _, _ => by simp [okJ]
  | a :: r, i, d, h => by
    simp only [okJ]
    exact ⟨by rw [if_neg (by omega)]; exact h a (by simp), okJ_of r (i + 1) d (fun t ht => h t (by simp [ht]))⟩
theorem wfK_of : ∀ (ks : List T), (∀ t ∈ ks, wfT t) → wfK ks
  | [], _ => by simp [wfK]
  | a :: r, h => by simp only [wfK]; exact ⟨h a (by simp), wfK_of r (fun t ht => h t (by simp [ht]))⟩
structure OneR (bs : List UInt8) (deep : Int) (s : RS) (x : T) (s' : RS) : Prop where
  ok : okD x deep
  wf : wfT x
  tm : s'.tm = s.tm + nodT x
  put : putB x = sliR bs s.i s'.i
theorem some_one {bs : List UInt8} {rd : RS → T × RS} {deep : Int} {lo : Nat} (H : ∀ s, InvR bs s → lo ≤ s.i → (rd s).2.e = 0 → OneR bs deep s (rd s).1 (rd s).2) (Hi : ∀ s, InvR bs s → InvR bs (rd s).2 ∧ s.i ≤ (rd s).2.i) : ∀ (n : Nat) (s : RS) (acc : List T), InvR bs s → lo ≤ s.i → (someR rd n s acc).2.e = 0 →
    ∃ xs, (someR rd n s acc).1 = acc ++ xs ∧ xs.length = n ∧ (∀ t ∈ xs, okD t deep ∧ wfT t) ∧ (someR rd n s acc).2.tm = s.tm + nodK xs ∧ putAll xs = sliR bs s.i (someR rd n s acc).2.i
  | 0, s, acc, _, _, _ => ⟨[], by simp [someR], rfl, fun t ht => (by cases ht), by simp [someR, nodK], by simp [someR, sli_self, putAll]⟩
  | n + 1, s, acc, hs, hlo, h => by
    have hi1 := Hi s hs
    simp only [someR] at h ⊢
    by_cases h1 : (rd s).2.e ≠ 0
    · rw [if_pos h1] at h; exact absurd h h1
    · rw [if_neg h1] at h ⊢
      have h1' : (rd s).2.e = 0 := by simpa using h1
      have o := H s hs hlo h1'
      obtain ⟨xs, g1, g2, g3, g4, g5⟩ := some_one H Hi n (rd s).2 (acc ++ [(rd s).1]) hi1.1 (by omega) h
      have hmono := (someR_inv Hi n (rd s).2 (acc ++ [(rd s).1]) hi1.1).2
      refine ⟨(rd s).1 :: xs, by rw [g1, List.append_assoc]; rfl, by rw [List.length_cons, g2], fun t ht => ?_, ?_, ?_⟩
      · rcases List.mem_cons.1 ht with rfl | ht
        · exact ⟨o.ok, o.wf⟩
        · exact g3 t ht
      · rw [g4, o.tm]; simp only [nodK]; omega
      · rw [sli_app bs hi1.2 hmono, ← g5, ← o.put]
        simp only [putAll, List.flatMap_cons]
theorem one_ok (bs : List UInt8) : ∀ (f : Nat) (deep : Int) (s : RS), InvR bs s → bs.length < s.i + f → (termR bs f deep s).2.e = 0 → OneR bs deep s (termR bs f deep s).1 (termR bs f deep s).2
  | 0, deep, s, hs, hf, _ => by have := hs.i; omega
  | f + 1, deep, s, hs, hf, h => by
    have ht1 : (takeR bs s 1).2.e = 0 := by
      rcases Classical.em ((takeR bs s 1).2.e = 0) with hh | hh
      · exact hh
      · exfalso
        simp only [termR] at h
        rw [if_pos hh] at h
        exact hh h
    obtain ⟨_, he, h4, _⟩ := stepR hs ht1
    obtain ⟨c, hc, _⟩ := take1 h4
    have htm := hs.ok he
    rw [termR_step hs ht1 f deep hc] at h ⊢
    have hno : ¬ (s.tm + 1 > 2000 ∨ deep > 60) := fun hh => by
      unfold tagR at h
      dsimp only at h
      rw [if_pos hh] at h
      cases h
    have hs1 : InvR bs ⟨s.i + 1, s.tm + 1, 0⟩ := ⟨h4, hs.len, by dsimp only; omega, by dsimp only; omega, fun _ => by dsimp only; omega⟩
    have hc1 : sliR bs s.i (s.i + 1) = [c] := by rw [sliR, show s.i + 1 - s.i = 1 by omega]; exact hc
    have hcc : ∀ m : Nat, m < 256 → c.toNat = m → c = UInt8.ofNat m := fun m hm h => by
      apply UInt8.toNat_inj.1
      rw [h, UInt8.toNat_ofNat']; omega
    have IH := fun d s hs (hlo : s.i + 1 ≤ s.i) => one_ok bs f d s hs
    have I := fun d s hs => termR_inv bs f d s hs
    have O := fun d (s' : RS) (hs' : InvR bs s') (hlo : s.i + 1 ≤ s'.i) hh => one_ok bs f d s' hs' (by omega) hh
    clear IH
    generalize htag : c.toNat = tag at h hcc ⊢
    unfold tagR at h ⊢
    dsimp only at h ⊢
    rw [if_neg hno] at h ⊢
    by_cases hp : tag = 97 ∨ tag = 98 ∨ tag = 110 ∨ tag = 119 ∨ tag = 109 ∨ tag = 106
    · rw [if_pos hp] at h ⊢
      obtain ⟨p, r, e, k1, k2, k3, k4⟩ := plain_is bs ⟨s.i + 1, s.tm + 1, 0⟩ tag s.i hp
      rw [e] at h ⊢
      obtain ⟨e1, e2⟩ := endR_e h
      obtain ⟨e3, e4⟩ := endR_ok h
      simp only [finR]
      rw [e2]
      obtain ⟨k, b, lg, l, t, m, kg, ks⟩ := p
      have : ks = [] := k1
      subst this
      refine ⟨?_, ?_, ?_, e3⟩
      · simp only [okD, okJ, and_true]; exact ⟨by omega, e4⟩
      · simp only [wfT, wfK, and_true]; exact k2
      · rw [k3]; simp only [nodT, nodK]; omega
    · rw [if_neg hp] at h ⊢
      by_cases h108 : tag = 108
      · rw [if_pos h108] at h ⊢
        obtain ⟨h1, h2⟩ := list_e h
        rw [listR_ok rfl rfl rfl h2]
        dsimp only at h1 h2 ⊢
        have hbm := bumpR_inv hs1 (by dsimp only; omega)
        have hsm := someR_inv (I (deep + 1)) (manyR bs ⟨s.i + 1, s.tm + 1, 0⟩ 4 1 (2001 - (s.tm + 1))).1.toNat _ [] hbm.1
        have hse : (someR (termR bs f (deep + 1)) (manyR bs ⟨s.i + 1, s.tm + 1, 0⟩ 4 1 (2001 - (s.tm + 1))).1.toNat (bumpR (manyR bs ⟨s.i + 1, s.tm + 1, 0⟩ 4 1 (2001 - (s.tm + 1)))) []).2.e = 0 := termR_e h1
        have hme : (manyR bs ⟨s.i + 1, s.tm + 1, 0⟩ 4 1 (2001 - (s.tm + 1))).2.e = 0 := someR_z (fun s h => termR_e h) _ (bumpR (manyR bs ⟨s.i + 1, s.tm + 1, 0⟩ 4 1 (2001 - (s.tm + 1)))) _ hse
        obtain ⟨m1, m2, m3, _, m5, m6⟩ := many_sli hme
        obtain ⟨xs, g1, g2, g3, g4, g5⟩ := some_one (O (deep + 1)) (I (deep + 1)) _ _ [] hbm.1 hbm.2 hse
        have o := O deep _ hsm.1 (Nat.le_trans hbm.2 hsm.2) h1
        have hti := (I deep _ hsm.1).2
        obtain ⟨m, hm⟩ : ∃ m, manyR bs ⟨s.i + 1, s.tm + 1, 0⟩ 4 1 (2001 - (s.tm + 1)) = m := ⟨_, rfl⟩
        dsimp only at m3
        rw [hm] at m1 m2 m5 m6 g1 g2 g4 g5 o h1 h2 hbm hsm hti ⊢
        obtain ⟨hh, hhq⟩ : ∃ hh, someR (termR bs f (deep + 1)) m.1.toNat (bumpR m) [] = hh := ⟨_, rfl⟩
        rw [hhq] at g1 g4 g5 o h1 h2 hsm hti ⊢
        obtain ⟨t, ht⟩ : ∃ t, termR bs f deep hh.2 = t := ⟨_, rfl⟩
        rw [ht] at o h1 h2 hti ⊢
        rw [List.nil_append] at g1
        have hbi : (bumpR m).i = s.i + 1 + 4 := by show m.2.i = _; rw [m2]
        have hbt : (bumpR m).tm = s.tm + 1 + (m.1 - 1) := by show m.2.tm + _ = _; rw [m2]
        rw [g1]
        have hpos : 1 ≤ xs.length := by omega
        refine ⟨listT_okD _ _ _ (by omega) (fun t ht => (g3 t ht).1) o.ok, listT_wf _ _ (fun t ht => (g3 t ht).2) o.wf, ?_, ?_⟩
        · rw [o.tm, g4, hbt, listT_nod]; omega
        · cases xs with
          | nil => simp at hpos
          | cons a xs =>
            obtain ⟨p1, p2⟩ := listT_put (a :: xs) t.1 h2
            rw [putB_list _ (listT_kind a xs _), p1, p2, g5, o.put, hbi]
            have hl4 : (sliR bs (s.i + 1) (s.i + 1 + 4)).length = 4 := sli_len m3
            have hb32 : be32 (((a :: xs).length : Nat) : Int) = sliR bs (s.i + 1) (s.i + 1 + 4) := by
              rw [← be32_beV _ hl4, ← m1]
              congr 1
              omega
            rw [hb32]
            have hh1 : s.i + 1 + 4 ≤ hh.2.i := by rw [← hbi]; exact hsm.2
            rw [sli_app bs (show s.i ≤ s.i + 1 by omega) (show s.i + 1 ≤ t.2.i by omega), hc1, sli_app bs (show s.i + 1 ≤ s.i + 1 + 4 by omega) (show s.i + 1 + 4 ≤ t.2.i by omega), sli_app bs hh1 hti, hcc 108 (by decide) h108]
            rfl
      · rw [if_neg h108] at h ⊢
        by_cases h104 : tag = 104
        · rw [if_pos h104] at h ⊢
          dsimp only at h ⊢
          have hm := hs1.many (k := 1) (a := 0) (b := 40)
          have hmo := (manyR_mono (bs := bs) (s := ⟨s.i + 1, s.tm + 1, 0⟩) (k := 1) (a := 0) (b := 40)).1
          have hsm := someR_inv (I (deep + 1)) (manyR bs ⟨s.i + 1, s.tm + 1, 0⟩ 1 0 40).1.toNat _ [] hm
          have hme : (manyR bs ⟨s.i + 1, s.tm + 1, 0⟩ 1 0 40).2.e = 0 := someR_z (fun s h => termR_e h) _ _ _ h
          obtain ⟨m1, m2, m3, _, m5, m6⟩ := many_sli hme
          obtain ⟨xs, g1, g2, g3, g4, g5⟩ := some_one (O (deep + 1)) (I (deep + 1)) _ _ [] hm hmo h
          obtain ⟨m, hmq⟩ : ∃ m, manyR bs ⟨s.i + 1, s.tm + 1, 0⟩ 1 0 40 = m := ⟨_, rfl⟩
          dsimp only at m3
          rw [hmq] at m1 m2 m5 m6 g1 g2 g4 g5 hsm ⊢
          obtain ⟨hh, hhq⟩ : ∃ hh, someR (termR bs f (deep + 1)) m.1.toNat m.2 [] = hh := ⟨_, rfl⟩
          rw [hhq] at g1 g4 g5 hsm ⊢
          rw [List.nil_append] at g1
          rw [g1]
          have hmi : m.2.i = s.i + 1 + 1 := by rw [m2]
          have hmt : m.2.tm = s.tm + 1 := by rw [m2]
          refine ⟨?_, ?_, ?_, ?_⟩
          · simp only [okD, tupT]
            refine ⟨by omega, ?_, okJ_of _ _ _ (fun t ht => (g3 t ht).1)⟩
            simp [ownT, zeroB]; omega
          · simp only [wfT, tupT]
            exact ⟨limbs_nilY, wfK_of _ (fun t ht => (g3 t ht).2)⟩
          · rw [g4, hmt]; simp only [nodT, tupT]; omega
          · rw [tupT, putB_5, g5, hmi]
            have hl1 : (sliR bs (s.i + 1) (s.i + 1 + 1)).length = 1 := sli_len m3
            have hb1 : [u8 ((xs.length : Nat) : Int)] = sliR bs (s.i + 1) (s.i + 1 + 1) := by
              rw [← u8_beV _ hl1, ← m1]
              congr 2
              omega
            have hh1 : s.i + 1 + 1 ≤ hh.2.i := by rw [← hmi]; exact hsm.2
            rw [sli_app bs (show s.i ≤ s.i + 1 by omega) (show s.i + 1 ≤ hh.2.i by omega), hc1, sli_app bs (show s.i + 1 ≤ s.i + 1 + 1 by omega) hh1, ← hb1, hcc 104 (by decide) h104]
            rfl
        · rw [if_neg h104] at h
          cases h
end Go.Ab

/- ext.Get of any bytes; what is wrong with bytes that are none (CFG5). Conditions: lengths in range. -/
namespace Go.Ab
open Go.Proofs
set_option maxRecDepth 100000
set_option linter.unusedSimpArgs false

theorem get_any (n D : Nat) (hn : 2200 ≤ n) (bs : List UInt8) (g : Grip) (hg : g = .tight ∨ g = .loose ∨ g = .nil) (hl : bs.length ≤ 150000000000000) (hD : 3 * (bs.length + 2) + 6030 ≤ D) (at_ : Int) :
    evalFn Try.prog cfg5 n (D+1) 13 [.tree (.sl (cellsOfBytes bs) bs.length g), .tree (.int .i64 at_)] = some (.tree (outG (getR bs at_)), [[], []]) :=
  get_eq n D hn bs g hg hl hD (fun _ D hD => by
    obtain ⟨E, rfl⟩ : ∃ E, D = E + 1 := ⟨D - 1, by omega⟩
    exact big_eq n E (by omega)) at_
end Go.Ab

/- The statements' copy of bytes (CFG5). Conditions: lengths in range. -/
namespace Go.Ab
open Go.Proofs
set_option maxRecDepth 100000
set_option linter.unusedSimpArgs false
theorem finish_tk {as1 : List Arg} {os : List (List AV)} (k : Bool) (hk : k = true) (t p i : Nat) (bs : List UInt8) (env : Env) (s : St) (hv : env t = .sl (cellsOfBytes bs) bs.length (.tok p i)) (hs : s p = ⟨i, .tok 1⟩) (ho : outsA s 0 as1 = some os) :
    finishP Try.prog k as1 #[.tmp t] env s = some (.tok (cellsOfBytes bs) bs.length 1, os) := by
  subst hk
  rw [finishP_t1]
  simp only [finish, finish1, hv, if_true, hs, Option.bind_some, ho, Option.map_some]
theorem callA_rtok {call : FuncId → List Arg → Option Out} {f : FuncId} {vs : List AV} {xs : List AV} {len e : Nat} (ht : vs.all isTree = true) (hc : call f (vs.map .tree) = some (.tok xs len e, vs.map fun _ => [])) (D : Nat) (st : St) :
    callA cfg5 call D st f vs = some (.sl xs len (.tok D ((st D).t + 1)), upd st D ⟨(st D).t + 1, .tok e⟩) := by
  simp only [callA, argsA_trees f st _ 0 ht, Option.bind_some, givesL_trees, lendsL_trees _ ht, List.nodup_nil, List.not_mem_nil, false_implies, implies_true, and_self, if_true, hc, List.foldl_nil, ite_self, backA_trees, resA]
theorem rBytesY_eq (n d : Nat) (b : List UInt8) (g : Grip) (hg : g.isTok = false) (hl : b.length ≤ 100000000000000) : evalFn Try.prog cfg5 n (d+1) 17 [.tree (.sl (cellsOfBytes b) b.length g)] = some (.tok (cellsOfBytes b) b.length 1, [[]]) := by
  rw [evalFn_go _ Try.func17 (by unfold Try.f17; rfl) (by unfold Try.f17; decide) (Nat.le_of_ble_eq_true (by unfold Try.f17; rfl)) (by kernel_rfl)]
  have e0 : env0 [.tree (.sl (cellsOfBytes b) b.length g)] 0 = .sl (cellsOfBytes b) b.length g := rfl
  have ho : ∀ s', outsA s' 0 [.tree (.sl (cellsOfBytes b) b.length g)] = some [[]] := fun s' => rfl
  generalize [Arg.tree (.sl (cellsOfBytes b) b.length g)] = as1 at e0 ho
  generalize env0 as1 = env at e0
  generalize st0 as1 = st
  have hz : (zeroOf Try.prog 5).map List.length = some 1 := by rw [zeroB8]; rfl
  have ap : ∀ s D, appendA Try.prog #[22, 22] D s (.sl [] 0 .nil) (.sl (cellsOfBytes b) b.length g) = some (.sl (cellsOfBytes b) b.length (.tok D ((s D).t + 1)), upd s D ⟨(s D).t + 1, .tok 1⟩) := fun s D => by
    have e1 : (#[22, 22] : Array TypeId)[0]? = some 22 := rfl
    have e2 : (#[22, 22] : Array TypeId)[1]? = some 22 := rfl
    have hm : ∀ s, moreA Try.prog 5 1 (some 22) s (.sl (cellsOfBytes b) b.length g) = some (cellsOfBytes b, b.length) := fun s => by
      simp only [moreA, Option.map_some, tkB, cB_len, Nat.mul_one, if_true]
    simp only [appendA, e1, e2, Option.map_some, tkB, eszB, Option.bind_some, hm, baseA, List.length_nil, Nat.zero_mul, if_true, byB, List.nil_append, Nat.zero_add]
    rw [if_pos ⟨by omega, by omega, hz⟩]
  simp only [simB, keep5, Nat.reduceBEq, own5, String.reduceAppend, String.reduceBEq, Bool.or_false, Bool.or_true, Bool.or_self, ↓reduceIte, Nat.reduceEqDiff, Nat.reduceAdd, simA, simL, simN, Nat.zero_add, e0, ap]
  exact finish_tk _ rfl 2 4 _ _ _ _ (by simp only [zfk, ↓reduceIte, Nat.reduceEqDiff]; try rfl) (by simp only [zfk, ↓reduceIte, Nat.reduceEqDiff]; try rfl) (ho _)
end Go.Ab

/- ExtOne gives true (CFG5). No conditions. -/
namespace Go.Ab
open Go.Proofs
set_option maxRecDepth 100000
set_option linter.unusedSimpArgs false

theorem ldY_cI (t k : Nat) (u : T) : ldE Try.prog 3 ⟨t, .buf (cellsT u)⟩ k 0 = if t = k then some (.int .i64 (kindT u)) else none := by
  obtain ⟨a, b, c, d, e, f, g, h⟩ := u
  simp only [cellsT, kindT]
  exact ldT_0 _ _ _ _ _ _ _ _
end Go.Ab

/- What is put is got; cut it is short: plain mathematics. Conditions: terms that may be; lengths in range. -/
namespace Go.Ab
open Go.Proofs
set_option maxRecDepth 100000

mutual
theorem putA_len : ∀ t : T, goodT t → (putA t).1.length ≤ 500 * nodT t ∧ (putA t).2.1.length ≤ 500 * nodT t
  | .mk k b lg l s n kg ks, hg => by
    have hg0 := hg
    simp only [goodT] at hg
    by_cases h4 : k = 4
    · subst h4
      obtain ⟨x, u, rfl⟩ := good_pair hg0 rfl
      have hb : ∀ v, (be32 v).length = 4 := fun v => rfl
      simp only [goodK, and_true] at hg
      have hx := putA_len x hg.2.2.1
      have hu := putA_len u hg.2.2.2
      simp only [putA, if_true, putP, putQ, List.length_cons, List.length_append, hb, nodT, nodK]
      omega
    · by_cases h5 : k = 5
      · subst h5
        have hk := putK_len ks hg.2.2
        have e : putA (.mk 5 b lg l s n kg ks) = (putB (.mk 5 b lg l s n kg ks), putB (.mk 5 b lg l s n kg ks), 0) := putA_no _ (by simp [kindT])
        rw [e, putB_5, ← putK_all]
        simp only [List.length_cons, nodT]
        omega
      · have e : putA (.mk k b lg l s n kg ks) = (putB (.mk k b lg l s n kg ks), putB (.mk k b lg l s n kg ks), 0) := putA_no _ (by simpa [kindT] using h4)
        rw [e]
        have h1 : (putB (.mk k b lg l s n kg ks)).length ≤ 500 := Leaf.len ⟨own_none hg.2.1 h4 h5, h4, hg.1⟩ hg.2.1
        simp only [nodT]
        omega
theorem putK_len : ∀ ks : List T, goodK ks → (putK ks).length ≤ 500 * nodK ks
  | [], _ => by simp [putK]
  | t :: r, hg => by
    simp only [goodK] at hg
    have h1 := putA_len t hg.1
    have h2 := putK_len r hg.2
    simp only [putK, nodK, List.length_append]
    omega
end
theorem putB_le (t : T) (hg : goodT t) : (putB t).length ≤ 500 * nodT t := (putA_len t hg).1
section
variable (t : T) (hok : okD t 1) (hg : goodT t) (hn : nodT t ≤ 2000)
include hok hg hn
theorem back_run (c : UInt8) (more : List UInt8) (hl : (c :: putB t ++ more).length ≤ 150000000000000) : ∃ x, termR (c :: putB t ++ more) ((c :: putB t ++ more).length + 2) 1 ⟨1, 0, 0⟩ = (x, ⟨1 + (putB t).length, nodT t, 0⟩) ∧ sameT x t = true ∧ goodT x ∧ nodT x ≤ 2000 := by
  have hd : (c :: putB t ++ more).drop 1 = putB t ++ more := rfl
  obtain ⟨x, e, hs⟩ := read_term (c :: putB t ++ more) hl ((c :: putB t ++ more).length + 2) 1 t 1 0 more (by simp only [List.length_cons, List.length_append]; omega) hg hok (by decide) (by omega) hd
  rw [Int.zero_add] at e
  have hi : InvR (c :: putB t ++ more) ⟨1, 0, 0⟩ := ⟨by simp, hl, by decide, by decide, fun _ => by decide⟩
  have o := one_ok (c :: putB t ++ more) ((c :: putB t ++ more).length + 2) 1 ⟨1, 0, 0⟩ hi (by dsimp only; omega) (by rw [e])
  rw [e] at o
  have h1 := o.tm
  dsimp only at h1
  exact ⟨x, e, hs, good_okD x 1 o.ok o.wf, by omega⟩
theorem back_read (c : UInt8) (more : List UInt8) (hl : (c :: putB t ++ more).length ≤ 150000000000000) : ∃ x, getR (c :: putB t ++ more) 1 = (x, ((1 + (putB t).length : Nat) : Int), 0) ∧ sameT x t = true ∧ goodT x ∧ nodT x ≤ 2000 := by
  obtain ⟨x, e, h1, h2, h3⟩ := back_run t hok hg hn c more hl
  refine ⟨x, ?_, h1, h2, h3⟩
  unfold getR
  rw [if_neg (fun hh => by
    rcases hh with hh | hh
    · omega
    · simp only [List.length_cons, List.length_append] at hh; omega)]
  rw [show (1 : Int).toNat = 1 from rfl, e]
  rfl
theorem back_cut (c : UInt8) (k : Nat) (hk1 : 1 ≤ k) (hk2 : k < 1 + (putB t).length) (hl : (putB t).length ≤ 100000000000000) : getR ((c :: putB t).take k) 1 = (T0, 0, 3) := by
  have hle : (c :: putB t ++ []).length ≤ 150000000000000 := by simp only [List.append_nil, List.length_cons]; omega
  obtain ⟨x, e, _⟩ := back_run t hok hg hn c [] hle
  rw [List.append_nil] at e hle
  have hkl : k ≤ (c :: putB t).length := by simp only [List.length_cons]; omega
  have htl : ((c :: putB t).take k).length = k := by rw [List.length_take]; omega
  have hi : InvR (c :: putB t) ⟨1, 0, 0⟩ := ⟨by simp, hle, by decide, by decide, fun _ => by decide⟩
  have hc := term_cut (c :: putB t) k hkl ((c :: putB t).length + 2) (k + 2) 1 ⟨1, 0, 0⟩ hi rfl hk1 (by dsimp only; omega) (by dsimp only; omega) (by rw [e])
  rw [e] at hc
  have h3 := hc.2 hk2
  unfold getR
  rw [if_neg (fun hh => by rw [htl] at hh; omega), htl, show (1 : Int).toNat = 1 from rfl]
  dsimp only
  rw [if_pos (by rw [h3]; decide), h3]
end
end Go.Ab

/- ExtBack gives true (CFG5). Conditions: lengths in range. -/
namespace Go.Ab
open Go.Proofs
set_option maxRecDepth 100000
set_option linter.unusedSimpArgs false

mutual
theorem bigY_wf (R : Nat) : ∀ t : T, bigT R t → wfT t
  | .mk k b lg l s n kg ks, h => by
    simp only [bigT] at h
    simp only [wfT]
    exact ⟨h.1, bigY_wfK R ks h.2.2⟩
theorem bigY_wfK (R : Nat) : ∀ ks : List T, bigK R ks → wfK ks
  | [], _ => by simp only [wfK]
  | t :: r, h => by
    simp only [bigK] at h
    simp only [wfK]
    exact ⟨bigY_wf R t h.1, bigY_wfK R r h.2⟩
end
theorem appendWY (D p t : Nat) (st : St) (a b : List UInt8) (g : Grip) (hg : g.isTok = false) (hp : st p = ⟨t, .tok 1⟩) (hl : a.length + b.length ≤ 150000000000000) :
    appendW Try.prog #[22, 22] D st (.sl (cellsOfBytes a) a.length (.tok p t)) (.sl (cellsOfBytes b) b.length g) = some (.sl (cellsOfBytes (a ++ b)) (a ++ b).length (.tok D (((upd st p ⟨t, .dead⟩) D).t + 1)), upd (upd st p ⟨t, .dead⟩) D ⟨((upd st p ⟨t, .dead⟩) D).t + 1, .tok 1⟩) := by
  have e1 : (#[22, 22] : Array TypeId)[0]? = some 22 := rfl
  have e2 : (#[22, 22] : Array TypeId)[1]? = some 22 := rfl
  have hz : (zeroOf Try.prog 5).map List.length = some 1 := by rw [zeroB8]; rfl
  have hm : ∀ s, moreA Try.prog 5 1 (some 22) s (.sl (cellsOfBytes b) b.length g) = some (cellsOfBytes b, b.length) := fun s => by
    simp only [moreA, Option.map_some, tkB, cB_len, Nat.mul_one, if_true]
  have hb : baseA 1 st (.sl (cellsOfBytes a) a.length (.tok p t)) = some (cellsOfBytes a, a.length, upd st p ⟨t, .dead⟩) := by
    simp only [baseA, hp, cB_len, Nat.mul_one, and_self, if_true]
  have hC : wideC (a.length + b.length) 1 = true := by simp [wideC]; exact hl
  simp only [appendW, appendX, e1, e2, Option.map_some, tkB, eszB, Option.bind_some, hm, hb, byB]
  rw [if_pos ⟨hC, by omega, hz⟩, ← cB_app, List.length_append]
theorem slToG (s : St) (x : List UInt8) (g : Grip) (m : Nat) (h : m ≤ x.length) : ∃ g', (g' = .tight ∨ g' = .loose ∨ g' = .nil) ∧ sliceA Try.prog 22 s (.sl (cellsOfBytes x) x.length g) none (some (.int .i64 (m : Int))) none = some (.sl (cellsOfBytes (x.take m)) (x.take m).length g') := by
  have hx : (cellsOfBytes x).length = x.length * 1 := by simp [cellsOfBytes]
  have a1 : (0 : Int) ≤ (m : Int) ∧ (m : Int) ≤ (x.length : Nat) := ⟨by omega, by omega⟩
  have hl : (x.take m).length = m := by rw [List.length_take]; omega
  simp only [sliceA, tkB, eszB, Option.isSome_none, Bool.false_eq_true, false_and, if_false, boundA, Option.bind_some, hx, if_true, a1, and_self, Int.toNat_natCast, Nat.mul_one, Nat.zero_mul, List.drop_zero, Nat.sub_zero, cB_take, hl]
  refine ⟨_, ?_, rfl⟩
  split
  · exact .inl rfl
  · exact .inr (.inl rfl)
set_option maxHeartbeats 1000000 in
theorem extBack_eq (n D : Nat) (hn : 2200 ≤ n) (hD : 500000000000000 ≤ D) (t : T) (hb : bigT 9223372036854775808 t) (hf : fewT 9223372036854775808 t) (more : List UInt8) (hm : more.length ≤ 140737488351232) (a2 : Int) :
    evalFn Try.prog cfg5 n (D+3) 4 [.tree (encT t), .tree (.sl (cellsOfBytes more) more.length .loose), .tree (.int .i64 a2)] = some (.tree (.bool true), [[], [], []]) := by
  rw [evalFn_go _ Try.func4 (by unfold Try.f4; rfl) (by unfold Try.f4; decide) (Nat.le_of_ble_eq_true (by unfold Try.f4; rfl)) (by kernel_rfl)]
  have e0 : env0 [.tree (encT t), .tree (.sl (cellsOfBytes more) more.length .loose), .tree (.int .i64 a2)] 0 = encT t := rfl
  have e1 : env0 [.tree (encT t), .tree (.sl (cellsOfBytes more) more.length .loose), .tree (.int .i64 a2)] 1 = .sl (cellsOfBytes more) more.length .loose := rfl
  have e2 : env0 [.tree (encT t), .tree (.sl (cellsOfBytes more) more.length .loose), .tree (.int .i64 a2)] 2 = .int .i64 a2 := rfl
  have j3 : (st0 [.tree (encT t), .tree (.sl (cellsOfBytes more) more.length .loose), .tree (.int .i64 a2)] 3).t = 0 := rfl
  have j8 : (st0 [.tree (encT t), .tree (.sl (cellsOfBytes more) more.length .loose), .tree (.int .i64 a2)] 8).t = 0 := rfl
  have j12 : (st0 [.tree (encT t), .tree (.sl (cellsOfBytes more) more.length .loose), .tree (.int .i64 a2)] 12).t = 0 := rfl
  have j32 : (st0 [.tree (encT t), .tree (.sl (cellsOfBytes more) more.length .loose), .tree (.int .i64 a2)] 32).t = 0 := rfl
  have ho : ∀ s, outsA s 0 [.tree (encT t), .tree (.sl (cellsOfBytes more) more.length .loose), .tree (.int .i64 a2)] = some [[], [], []] := fun s => rfl
  generalize [Arg.tree (encT t), .tree (.sl (cellsOfBytes more) more.length .loose), .tree (.int .i64 a2)] = as1 at e0 e1 e2 j3 j8 j12 j32 ho
  generalize env0 as1 = env at e0 e1 e2
  generalize st0 as1 = st at j3 j8 j12 j32
  simp only [encT] at e0
  have wa := fun D' st => callA_trees (cfg := cfg5) (d := D') (s := st) (f := 9) (vs := []) rfl (evalFn_mono hn 20 (D+2) (by omega) _ _ _ awake5_eq)
  have ck := fun D' st => callA_trees (cfg := cfg5) (d := D') (s := st) (f := 16) (vs := [encT t]) rfl (ev5 (n := n) (d := D+1) rfl (rCheck_eq 9223372036854775808 (by decide) (Nat.le_refl _) 4185 t hb))
  have cl := fun D' st => callA_trees (cfg := cfg5) (d := D') (s := st) (f := 8) (vs := [encT t, .int .i64 200]) rfl (ev5 (n := n) (d := D+1) rfl (Light_eq 9223372036854775808 (by decide) (Nat.le_refl _) 6189 t 200 (by decide) (by decide) (by decide) hb hf))
  simp only [encT] at ck cl
  by_cases hc : rwT t 1 0 ≥ 0
  · rw [decide_eq_true hc] at ck
    by_cases hl : lgT t 200 ≥ 0
    · rw [decide_eq_true hl] at cl
      obtain ⟨hok, hr1, hr2⟩ := rw_okD t 1 0 (by decide) hc
      have hn0 : nodT t ≤ 2000 := by omega
      have hwf := bigY_wf 9223372036854775808 t hb
      have hg := good_okD t 1 hok hwf
      have hpl := putB_le t hg
      have hp1 := putB_pos t (by
        obtain ⟨k, b, lg, l, s, m, kg, ks⟩ := t
        simp only [okD] at hok; exact hok.2.1)
      have hchk : (chkT t 1 2000).1 = true := by rw [okD_chk t 1 2000 hok (by omega)]
      have cp := fun D' st => callA_trees (cfg := cfg5) (d := D') (s := st) (f := 10) (vs := [.sl (cellsOfBytes [7]) ([7] : List UInt8).length .tight, encT t]) rfl (ePut_ok n (D+1) [7] .tight t hchk hwf hn (by omega) (by simp only [List.length_cons, List.length_nil]; omega))
      have cp : ∀ D' st, callA cfg5 (evalFn Try.prog cfg5 n (D+2)) D' st 10 [.sl [.int .u8 7] 1 .tight, .agg (cellsT t)] = some (.sl (cellsOfBytes (7 :: putB t)) (7 :: putB t).length .loose, st) := cp
      have hbl : (7 :: putB t).length = (putB t).length + 1 := List.length_cons
      have hall : ((7 : UInt8) :: putB t ++ more).length ≤ 150000000000000 := by rw [List.length_append, hbl]; omega
      have cb := callA_rtok (f := 17) (vs := [.sl (cellsOfBytes (7 :: putB t)) (7 :: putB t).length .loose]) rfl (rBytesY_eq n (D+1) (7 :: putB t) .loose rfl (by omega))
      obtain ⟨x, hx, hsame, hgx, hnx⟩ := back_read t hok hg hn0 7 more hall
      have cg := fun (st : St) (p t' : Nat) D' => callA_tok1 (st := st) (p := p) (t := t') (f := 13) 1 rfl (get_any n (D+1) hn (7 :: putB t ++ more) .loose (.inr (.inl rfl)) hall (by omega) 1) D'
      rw [hx] at cg
      simp only [outG, encT, List.cons_append] at cg
      have st1 := fun s p k' => st_Tt s p k' x
      have s61 := fun t k' p st => stT_6 t k' p st (.int .i64 0) (.bool false) (.sl [] 0 .nil) (.str []) (.int .i64 0) (.sl [] 0 .nil) x
      have st2 := fun s p k' => st_Tt s p k' T0
      have s62 := fun t k' p st => stT_6 t k' p st (.int .i64 0) (.bool false) (.sl [] 0 .nil) (.str []) (.int .i64 0) (.sl [] 0 .nil) T0
      have g1 : ¬ (((7 :: putB t).length : Nat) : Int) < 2 := by rw [hbl]; omega
      have g2 := i_sub Try.prog 3 (((7 :: putB t).length : Nat) : Int) 1 (by omega) (by rw [hbl]; omega)
      rw [show (((7 :: putB t).length : Nat) : Int) - 1 = (((putB t).length : Nat) : Int) by rw [hbl]; omega] at g2
      have p0 := fun D' st => callA_trees (cfg := cfg5) (d := D') (s := st) (f := 18) (vs := [.int .i64 a2, .int .i64 (((putB t).length : Nat) : Int)]) rfl (ev5 (n := n) (d := D+1) rfl (place_eq 9223372036854775808 6189 a2 (((putB t).length : Nat) : Int) (by omega) (by omega)))
      have r0 := place_range a2 (((putB t).length : Nat) : Int) (by omega)
      obtain ⟨k, hk⟩ : ∃ k : Nat, placeN a2 (((putB t).length : Nat) : Int) = k := ⟨(placeN a2 (((putB t).length : Nat) : Int)).toNat, by omega⟩
      rw [hk] at p0 r0
      have g3 := i_add Try.prog 3 1 (k : Int) (by omega) (by omega)
      rw [show (1 : Int) + (k : Int) = ((1 + k : Nat) : Int) by omega] at g3
      obtain ⟨g', hg', hsl0⟩ := slToG dead (7 :: putB t) .loose (1 + k) (by rw [hbl]; omega)
      have hsl : ∀ s, sliceA Try.prog 22 s (.sl (cellsOfBytes (7 :: putB t)) (7 :: putB t).length .loose) none (some (.int .i64 ((1 + k : Nat) : Int))) none = some (.sl (cellsOfBytes ((7 :: putB t).take (1 + k))) ((7 :: putB t).take (1 + k)).length g') := fun s => hsl0
      have hcut := back_cut t hok hg hn0 7 (1 + k) (by omega) (by omega) (by omega)
      have htree : isTree (.sl (cellsOfBytes ((7 :: putB t).take (1 + k))) ((7 :: putB t).take (1 + k)).length g') = true := by rcases hg' with rfl | rfl | rfl <;> rfl
      have htk : ((7 :: putB t).take (1 + k)).length ≤ 2000000 := by rw [List.length_take]; omega
      have cy := fun D' st => callA_trees (cfg := cfg5) (d := D') (s := st) (f := 13) (vs := [.sl (cellsOfBytes ((7 :: putB t).take (1 + k))) ((7 :: putB t).take (1 + k)).length g', .int .i64 1]) (by simp only [List.all_cons, htree, List.all_nil]; rfl) (get_any n (D+1) hn ((7 :: putB t).take (1 + k)) g' hg' (by omega) (by omega) 1)
      rw [hcut] at cy
      simp only [outG, encT] at cy
      have cs := fun D' st => callA_trees (cfg := cfg5) (d := D') (s := st) (f := 19) (vs := [encT x, encT t]) rfl (ev5 (n := n) (d := D+1) rfl (evalFn_mono (show 100000 ≤ 9223372036854775808 by decide) 6190 6190 (Nat.le_refl _) _ _ _ (rsame_eq 100000 (by decide) 6189 6190 x t (by have := ht_nod x; omega) (by decide) (good_few x hgx))))
      rw [hsame] at cs
      simp only [encT] at cs
      have k0 : kindT T0 = 0 := rfl
      have b1 : ((0 : Int) == 0) = true := rfl
      have b2 : ((3 : Int) == 3) = true := rfl
      have b3 : (((1 + (putB t).length : Nat) : Int) == (((7 :: putB t).length : Nat) : Int)) = true := by rw [hbl, Nat.add_comm]; exact beq_self_eq_true _
      have aw := fun st t' (hp : st 32 = (⟨t', .tok 1⟩ : Ent)) => appendWY 34 32 t' st (7 :: putB t) more .loose rfl hp (by rw [List.length_append] at hall; exact hall)
      simp only [simB, keep5, Nat.reduceBEq, own5, String.reduceAppend, String.reduceBEq, Bool.or_false, Bool.or_true, Bool.or_self, ↓reduceIte, Nat.reduceEqDiff, Nat.reduceAdd, simA, simL, simN, Nat.zero_add, e0, e1, e2, j3, boxA_agg, ldT_u, ck, cl, unA_not', Bool.not_true, Bool.not_false, opA_lit1, lit1_b, cp, lenB, y_lss, g1, cb, j32]
      rw [aw _ 1 (by simp only [zfk, ↓reduceIte, Nat.reduceEqDiff]; try rfl)]
      simp only [simB, keep5, Nat.reduceBEq, own5, String.reduceAppend, String.reduceBEq, Bool.or_false, Bool.or_true, Bool.or_self, ↓reduceIte, Nat.reduceEqDiff, Nat.reduceAdd, simA, simL, simN, Nat.zero_add, e0, e1, e2, cg, zdu, zeroT, j8, j12, st1, s61, st2, s62, lenB, g2, p0, g3, hsl, cy, y_eql, b1, b2, b3, ldT_u, cs, faT_0, ldY_cI, k0, wa]
      exact finish_b _ _ _ _ _ _ _ (by simp only [zfk, ↓reduceIte, Nat.reduceEqDiff]; try rfl) (ho _)
    · rw [decide_eq_false hl] at cl
      simp only [simB, keep5, Nat.reduceBEq, own5, String.reduceAppend, String.reduceBEq, Bool.or_false, Bool.or_true, Bool.or_self, ↓reduceIte, Nat.reduceEqDiff, Nat.reduceAdd, simA, simL, simN, Nat.zero_add, e0, e1, e2, j3, boxA_agg, ldT_u, ck, cl, unA_not', Bool.not_true, Bool.not_false, wa]
      exact finish_b _ _ _ _ _ _ _ (by simp only [zfk, ↓reduceIte, Nat.reduceEqDiff]; try rfl) (ho _)
  · rw [decide_eq_false hc] at ck
    simp only [simB, keep5, Nat.reduceBEq, own5, String.reduceAppend, String.reduceBEq, Bool.or_false, Bool.or_true, Bool.or_self, ↓reduceIte, Nat.reduceEqDiff, Nat.reduceAdd, simA, simL, simN, Nat.zero_add, e0, e1, e2, j3, boxA_agg, ldT_u, ck, unA_not', Bool.not_true, Bool.not_false, wa]
    exact finish_b _ _ _ _ _ _ _ (by simp only [zfk, ↓reduceIte, Nat.reduceEqDiff]; try rfl) (ho _)
end Go.Ab

/- The walk of ExtBack (CFG5): it gives true, and leaves memory below as it was. No conditions. -/
namespace Go.Ab
open Go.Proofs Go.RowKit
theorem prim5_ok : FnOk Try.prog prim5 := fun f xs r os h => by
  unfold prim5 at h
  split at h
  · cases h
  · exact evalFn_ok mixed prim0_ok 9223372036854775808 6190 f xs r os h
theorem walkEBack (v0 : Value) (a1 : Option Addr) (len1 cap1 : Nat) (z1 : List Int) (a2 : Int) (w : World) (h0 : IsTerm w v0) (h1 : IsRow .u8 w a1 len1 cap1 z1 ∧ len1 ≤ 140737488351232) (_h2 : (Lit.int .i64 a2).wf = true) :
    Calls Try.prog 4 #[v0, .slice a1 len1 cap1, .int .i64 a2] w fun e w' => e = .returned (.bool true) ∧ Below w.heap.size w w' := by
  obtain ⟨t, t1, t2, t3⟩ := h0
  obtain ⟨h1, hl⟩ := h1
  obtain ⟨bs, rfl, hv⟩ := bytesRow h1
  refine lawCallsP (cfg := cfg5) mixed prim5_ok (vs := [v0, .slice a1 bs.length cap1, .int .i64 a2]) (extBack_eq 2200 500000000000000 (Nat.le_refl _) (Nat.le_refl _) t t1 t2 bs hl a2) rfl (st0_3 _ _ _) (fun j v hj => ?_) true rfl
  match j, hj with
  | 0, hj => cases hj; exact ⟨t3, rfl⟩
  | 1, hj => cases hj; exact ⟨hv, rfl⟩
  | 2, hj => cases hj; exact ⟨by simp only [env0, List.getElem?_cons_succ, List.getElem?_cons_zero, V0], rfl⟩
end Go.Ab
