/- Several texts put together: AbeZ7, AbeZ8, AbeZ9, AbeZ10, AbeZ11, AbeZ12, AbeZ13, AbeZ14, AbeZ15, AbeZ16. Conditions: as each part says. -/
import Derived.Test.YticeekdofpdcoaaAbEAllZ08
import Derived.Test.YticeekdofpdcoaaAbEAllZ05
/- The reference's great number read (CFG5). Conditions: places in range. -/
namespace Go.Ab
open Go.Proofs
set_option maxRecDepth 100000
set_option linter.unusedSimpArgs false

theorem boN_Z (s : St) (p t : Nat) (b : Bool) (l : List Nat) (hs : s p = ⟨t, .buf (encC l)⟩) : buildO Try.prog 25 s [(0, .bool b), (1, .own p t 0 l.length 1)] = some (.agg [.bool b, .sl (encC l) l.length .loose], upd s p ⟨t, .frz (encC l)⟩) := by
  have h1 : 0 + l.length * 1 ≤ (encC l).length := by rw [encC_len]; omega
  have h2 : ((encC l).drop 0).take (l.length * 1) = encC l := by rw [List.drop_zero, Nat.mul_one]; exact List.take_of_length_le (by rw [encC_len]; exact Nat.le_refl _)
  simp only [buildO, settleP, settle, Option.bind_some, Option.map_some, hs, h1, h2, and_self, if_true, tk24, zew, pl24]
  rfl
theorem boT_Z (s : St) (b : Bool) (l : List Nat) : buildO Try.prog 28 s [(0, .int .i64 1), (1, .agg [.bool b, .sl (encC l) l.length .loose])] = some (.agg (cellsT (.mk 1 b .l l [] 0 .n [])), s) := by
  simp only [buildO, settleP, settle, Option.bind_some, Option.map_some, zeroT, tkT, plT]
  rfl
theorem y_shlZ (a K : Nat) (hK : K < 32) (h : a * 2 ^ K < 4294967296) : binA Try.prog .shl 56 (.int .u32 (a : Int)) (.int .u64 (K : Int)) = some (.int .u32 ((a * 2 ^ K : Nat) : Int)) := by
  have hm : min ((K : Int).toNat) 32 = K := by omega
  have e : (a : Int) * 2 ^ K = ((a * 2 ^ K : Nat) : Int) := by rw [Int.natCast_mul, Int.natCast_pow]; rfl
  simp only [binA, shA, IntKind.bits]
  rw [if_neg (by omega)]
  simp only [hm, e]
  have w : IntKind.u32.wrap ((a * 2 ^ K : Nat) : Int) = ((a * 2 ^ K : Nat) : Int) := by
    generalize a * 2 ^ K = q at *
    show (q : Int) % 4294967296 = q
    omega
  rw [w]
noncomputable def bgC : Code := (Try.f64.body).getD .skip
noncomputable def bg1 : Code := seqR (seqR (seqR bgC))
def bigZ (x : List UInt8) (N : Nat) : T := .mk 1 (x.headD 0 == 1) .l (limR x.tail N 0) [] 0 .n []
theorem limR_Limbs (x : List UInt8) (m : Nat) : Limbs (limR x m 0) := by
  intro v hv
  obtain ⟨k, hk⟩ := List.mem_iff_getElem?.1 hv
  rcases Nat.lt_or_ge k m with h | h
  · rw [limR_get x m 0 k h] at hk
    cases hk
    unfold limO
    have b : ∀ k, (x.getD k 0).toNat < 256 := fun k => (x.getD k 0).toNat_lt
    have b0 := b (4 * (0 + k))
    have b1 := b (4 * (0 + k) + 1)
    have b2 := b (4 * (0 + k) + 2)
    have b3 := b (4 * (0 + k) + 3)
    omega
  · rw [List.getElem?_eq_none (by rw [limR_len]; exact h)] at hk; cases hk
theorem bigZ_leaf (x : List UInt8) (N : Nat) : Leaf (bigZ x N) := ⟨rfl, by show (1 : Int) ≠ 4; decide, limR_Limbs _ _⟩
set_option maxHeartbeats 4000000 in
theorem bg1_eq (n d : Nat) (hn : 2200 ≤ n) (hd : 6012 ≤ d) (bs : List UInt8) (g : Grip) (r : RS) (hr : okR bs r) (fr : Nat) (hf : fr < r.i ∨ r.e ≠ 0) (x : List UInt8) (m N : Nat) (hm : m ≤ 48) (hN : (m + 3) / 4 = N) (hx : x = [] ∨ x.length = m + 1)
    (as1 : List Arg) (os : List (List AV)) (ho : ∀ s ys, s 0 = ⟨0, .buf ys⟩ → outsA s 0 as1 = some (ys :: os)) (K : Kont)
    (hK : ∀ env s, K .normal env s = finishP Try.prog false as1 #[.cell 4 28] env s) (hK2 : ∀ env s, K .ret env s = finishP Try.prog false as1 #[.cell 4 28] env s) (env : Env) (st : St) (e0 : env 0 = .ptr 0 0 0) (e1 : env 1 = .int .i64 (fr : Int)) (e4 : env 4 = .ptr 4 1 0) (e5 : env 5 = .int .i64 (m : Int)) (e6 : env 6 = .str x)
    (j0 : st 0 = ⟨0, .buf (rC bs g r)⟩) (j4 : st 4 = ⟨1, .buf [.int .i64 0, .bool false, .sl [] 0 .nil, .str [], .int .i64 0, .sl [] 0 .nil]⟩) (j18 : (st 18).t = 0) :
    den Try.prog cfg5 (evalFn Try.prog cfg5 n (d+2)) n bg1 K env st = some (.tree (encT (bigZ x N)), rC bs g (endR bs r (bigZ x N) fr) :: os) := by
  have cs := fun D (st : St) (hp : st 0 = ⟨0, .buf (rC bs g r)⟩) => callA_ptr (call := evalFn Try.prog cfg5 n (d+2)) [encT (bigZ x N), .int .i64 (fr : Int)] rfl (rsameR_eq n d hn hd bs g r hr fr hf (bigZ x N) (bigZ_leaf x N) (by simp [bigZ, strT])) D hp
  simp only [encT] at cs
  have a1 := i_add Try.prog 3 (m : Int) 3 (by omega) (by omega)
  have a2 := i_quo Try.prog 3 (m + 3) 4 (by decide) (by omega)
  rw [show ((m + 3 : Nat) : Int) = (m : Int) + 3 by omega, show ((4 : Nat) : Int) = 4 from rfl, hN] at a2
  have hN1 : N ≤ 12 := by omega
  have mk := fun s => make22 18 s (N : Int) (by omega) (by omega)
  simp only [Int.toNat_natCast] at mk
  have hyl : x.tail.length ≤ 4 * N := by
    rcases hx with rfl | hx
    · simp
    · rw [List.length_tail]; omega
  have hxl : x.length ≤ 49 := by
    rcases hx with rfl | hx
    · simp
    · omega
  have lenS := fun s => len9 s x
  simp only [bg1, bgC, seqR, Try.f64, Option.getD_some, simB, keep5, Nat.reduceBEq, own5, String.reduceAppend, String.reduceBEq, Bool.or_false, Bool.or_true, Bool.or_self, ↓reduceIte, Nat.reduceEqDiff, Nat.reduceAdd, simA, simL, simN, Nat.zero_add, e0, e1, e4, e5, e6, a1, a2, mk, j18, den_loop]
  have hL0 : limR (x.tail.take 0) N 0 = List.replicate N 0 := by rw [List.take_zero, limR_zero]
  refine loop_ends (X := Nat) (fun i env s => env 0 = .ptr 0 0 0 ∧ env 1 = .int .i64 (fr : Int) ∧ env 4 = .ptr 4 1 0 ∧ env 6 = .str x ∧ env 7 = .own 18 1 0 N 1 ∧ env 8 = .int .i64 ((i + 1 : Nat) : Int) ∧ i ≤ x.tail.length ∧ s 0 = ⟨0, .buf (rC bs g r)⟩ ∧ s 4 = ⟨1, .buf [.int .i64 0, .bool false, .sl [] 0 .nil, .str [], .int .i64 0, .sl [] 0 .nil]⟩ ∧ s 18 = ⟨1, .buf (encC (limR (x.tail.take i) N 0))⟩) (fun i => x.tail.length - i) (fun _ => (.tree (encT (bigZ x N)), rC bs g (endR bs r (bigZ x N) fr) :: os)) ?_ n 0 _ _ (by rw [List.length_tail]; omega) ⟨(by simp only [zfk, ↓reduceIte, Nat.reduceEqDiff, e0]; try rfl), (by simp only [zfk, ↓reduceIte, Nat.reduceEqDiff, e1]; try rfl), (by simp only [zfk, ↓reduceIte, Nat.reduceEqDiff, e4]; try rfl), (by simp only [zfk, ↓reduceIte, Nat.reduceEqDiff, e6]; try rfl), (by simp only [zfk, ↓reduceIte, Nat.reduceEqDiff]; try rfl), (by simp only [zfk, ↓reduceIte, Nat.reduceEqDiff]; try rfl), by omega, (by simp only [zfk, ↓reduceIte, Nat.reduceEqDiff, j0]; try rfl), (by simp only [zfk, ↓reduceIte, Nat.reduceEqDiff, j4]; try rfl), by rw [hL0]; exact (by simp only [zfk, ↓reduceIte, Nat.reduceEqDiff]; try rfl)⟩
  rintro rd i hrd ih env1 s1 ⟨e0', e1', e4', e6', e7, e8, hi, k0, k4, k18⟩
  cases hdr : x.tail.drop i with
  | cons v q =>
    have hlt : i < x.tail.length := by have := congrArg List.length hdr; simp only [List.length_drop, List.length_cons] at this; omega
    have hlt2 : i + 1 < x.length := by rw [List.length_tail] at hlt; omega
    have q3 : ((i + 1 : Nat) : Int) < (x.length : Int) := by omega
    have hv : v.toNat < 256 := v.toNat_lt
    have hyv : x.tail.getD i 0 = v := by
      have hxi : x.tail[i]? = some v := by rw [← Nat.add_zero i, ← List.getElem?_drop, hdr]; rfl
      rw [List.getD_eq_getElem?_getD, hxi]; rfl
    have hxv : x.getD (i + 1) 0 = v := by
      rw [← hyv, List.getD_eq_getElem?_getD, List.getD_eq_getElem?_getD, List.getElem?_tail]
    have ix := ix9 x .i64 ((i + 1 : Nat) : Int)
    rw [if_pos ⟨by omega, by omega⟩, Int.toNat_natCast, hxv] at ix
    have hiN : i / 4 < N := by omega
    have c0 : binA Try.prog .sub 3 (.int .i64 ((i + 1 : Nat) : Int)) (.int .i64 1) = some (.int .i64 (i : Int)) := by
      rw [i_sub Try.prog 3 ((i + 1 : Nat) : Int) 1 (by omega) (by omega)]
      congr 2; omega
    have c1 := i_quo Try.prog 3 i 4 (by decide) (by omega)
    have c2 := i_rem Try.prog 3 i 4 (by decide)
    rw [show ((4 : Nat) : Int) = 4 from rfl] at c1 c2
    have c3 := y_mul8 (i % 4) (by omega)
    have cu := fun s => conv3_44 s (8 * (i % 4)) (by omega)
    have hpow : 256 * 2 ^ (8 * (i % 4)) ≤ 4294967296 := by
      have h : i % 4 < 4 := Nat.mod_lt _ (by decide)
      generalize i % 4 = r at h ⊢
      match r, h with
      | 0, _ => decide
      | 1, _ => decide
      | 2, _ => decide
      | 3, _ => decide
    have hmul : v.toNat * 2 ^ (8 * (i % 4)) < 4294967296 := Nat.lt_of_lt_of_le ((Nat.mul_lt_mul_right (Nat.two_pow_pos _)).2 hv) hpow
    have c4 := y_shlZ v.toNat (8 * (i % 4)) (by omega) hmul
    have c5 := fun s => conv5_31 s v.toNat hv
    obtain ⟨hold, hnew⟩ := limO_here x.tail i
    rw [hyv] at hnew
    have hold2 : limO (x.tail.take i) (i / 4) < 4294967296 := by
      have : 2 ^ (8 * (i % 4)) ≤ 256 * 2 ^ (8 * (i % 4)) := Nat.le_mul_of_pos_left _ (by decide)
      omega
    have c6 := y_orU (limO (x.tail.take i) (i / 4)) (v.toNat * 2 ^ (8 * (i % 4))) hold2 hmul
    rw [shl_or _ _ _ hold, ← hnew] at c6
    have hLl : (limR (x.tail.take i) N 0).length = N := limR_len _ _ _
    have c7 : ∀ s, s 18 = (⟨1, .buf (encC (limR (x.tail.take i) N 0))⟩ : Ent) → indexAddrA Try.prog 23 s (.own 18 1 0 N 1) (.int .i64 ((i / 4 : Nat) : Int)) = some (.ptr 18 1 (i / 4)) := fun s h => by
      have := ia_own s 18 1 (limR (x.tail.take i) N 0) N .i64 ((i / 4 : Nat) : Int) h (by omega) (by omega)
      rwa [Int.toNat_natCast] at this
    have c8 : ∀ s, s 18 = (⟨1, .buf (encC (limR (x.tail.take i) N 0))⟩ : Ent) → loadA Try.prog 56 s (.ptr 18 1 (i / 4)) = some (.int .u32 (limO (x.tail.take i) (i / 4) : Int)) := fun s h => by
      rw [ld_own s 18 1 (limR (x.tail.take i) N 0) (i / 4) h (by omega), limR_getD _ _ _ hiN]
    have c9 : ∀ s, s 18 = (⟨1, .buf (encC (limR (x.tail.take i) N 0))⟩ : Ent) → storeA Try.prog 56 s (.ptr 18 1 (i / 4)) (.int .u32 (limO (x.tail.take (i + 1)) (i / 4) : Int)) = some (upd s 18 ⟨1, .buf (encC (limR (x.tail.take (i + 1)) N 0))⟩) := fun s h => by
      rw [st31 s 18 1 (limR (x.tail.take i) N 0) (i / 4) _ h (by omega), limR_step _ _ _ hiN]
    have c10 := i_add Try.prog 3 ((i + 1 : Nat) : Int) 1 (by omega) (by omega)
    rw [show ((i + 1 : Nat) : Int) + 1 = ((i + 1 + 1 : Nat) : Int) by omega] at c10
    simp only [simB, keep5, Nat.reduceBEq, own5, String.reduceAppend, String.reduceBEq, Bool.or_false, Bool.or_true, Bool.or_self, ↓reduceIte, Nat.reduceEqDiff, Nat.reduceAdd, simA, simL, simN, Nat.zero_add, zfc, y_lss, e0', e1', e4', e6', e7, e8, lenS, q3, ix, c0, c1, c2, c3, cu, c4, c5, c6, c7 _ k18, c8 _ k18, c9 _ k18, c10]
    exact ih (i + 1) _ _ (by omega) rfl ⟨(by simp only [zfk, ↓reduceIte, Nat.reduceEqDiff, e0']; try rfl), (by simp only [zfk, ↓reduceIte, Nat.reduceEqDiff, e1']; try rfl), (by simp only [zfk, ↓reduceIte, Nat.reduceEqDiff, e4']; try rfl), (by simp only [zfk, ↓reduceIte, Nat.reduceEqDiff, e6']; try rfl), (by simp only [zfk, ↓reduceIte, Nat.reduceEqDiff, e7]; try rfl), (by simp only [zfk, ↓reduceIte, Nat.reduceEqDiff]; try rfl), by omega, (by simp only [zfk, ↓reduceIte, Nat.reduceEqDiff, k0]; try rfl), (by simp only [zfk, ↓reduceIte, Nat.reduceEqDiff, k4]; try rfl), (by simp only [zfk, ↓reduceIte, Nat.reduceEqDiff]; try rfl)⟩
  | nil =>
    have hie : i = x.tail.length := by have := congrArg List.length hdr; simp only [List.length_drop, List.length_nil] at this; omega
    subst hie
    rw [List.take_length] at k18
    have q3 : ¬ ((x.tail.length + 1 : Nat) : Int) < (x.length : Int) := by rw [List.length_tail]; omega
    have bo1 := fun s b h => boN_Z s 18 1 b (limR x.tail N 0) h
    rw [limR_len] at bo1
    have bo2 := fun s b => boT_Z s b (limR x.tail N 0)
    rw [limR_len] at bo2
    cases x with
    | nil =>
      have hz : bigZ [] N = T.mk 1 false .l (limR ([] : List UInt8).tail N 0) [] 0 .n [] := rfl
      rw [hz] at cs ⊢
      have q4 : ¬ (0 : Int) < (([] : List UInt8).length : Int) := by simp
      have q4' : ¬ (([] : List UInt8).length : Int) > 0 := by simp
      simp only [simB, keep5, Nat.reduceBEq, own5, String.reduceAppend, String.reduceBEq, Bool.or_false, Bool.or_true, Bool.or_self, ↓reduceIte, Nat.reduceEqDiff, Nat.reduceAdd, simA, simL, simN, Nat.zero_add, zfc, y_lss, y_gtr, e0', e1', e4', e6', e7, e8, lenS, q3, q4, q4', bo1 _ _ k18, bo2, cs _ _ k0]
      rw [cs _ _ (by simp only [zfk, ↓reduceIte, Nat.reduceEqDiff, k0]; try rfl)]
      simp only [simB, keep5, Nat.reduceBEq, own5, String.reduceAppend, String.reduceBEq, Bool.or_false, Bool.or_true, Bool.or_self, ↓reduceIte, Nat.reduceEqDiff, Nat.reduceAdd, simA, e4', k4, st_Tt, stT_6, hK2, hK]
      exact finish_cY _ _ _ _ _ _ (T.mk 1 false .l (limR ([] : List UInt8).tail N 0) [] 0 .n []) _ _ (by simp only [zfk, ↓reduceIte, Nat.reduceEqDiff, e4']; try rfl) (by simp only [zfk, ↓reduceIte, Nat.reduceEqDiff]; try rfl) (ho _ _ (by simp only [zfk, ↓reduceIte, Nat.reduceEqDiff]; try rfl))
    | cons c y =>
      have hz : bigZ (c :: y) N = T.mk 1 (c == 1) .l (limR y N 0) [] 0 .n [] := rfl
      rw [hz] at cs ⊢
      simp only [List.tail_cons] at k18 bo1 bo2
      have q4 : ((c :: y).length : Int) > 0 := by simp only [List.length_cons]; omega
      have ix := ix9 (c :: y) .i64 0
      rw [if_pos ⟨by omega, by omega⟩] at ix
      have hb : ((c.toNat : Int) == 1) = (c == 1) := by
        rw [Bool.eq_iff_iff]
        simp only [beq_iff_eq]
        constructor
        · intro h; apply UInt8.toNat_inj.1; show c.toNat = 1; omega
        · intro h; subst h; rfl
      have ix : indexA Try.prog 9 (.str (c :: y)) (.int .i64 0) = some (.int .u8 (c.toNat : Int)) := ix
      simp only [simB, keep5, Nat.reduceBEq, own5, String.reduceAppend, String.reduceBEq, Bool.or_false, Bool.or_true, Bool.or_self, ↓reduceIte, Nat.reduceEqDiff, Nat.reduceAdd, simA, simL, simN, Nat.zero_add, zfc, y_lss, y_gtr, e0', e1', e4', e6', e7, e8, lenS, q3, q4, ix, y_eql8, hb, bo1 _ _ k18, bo2]
      rw [cs _ _ (by simp only [zfk, ↓reduceIte, Nat.reduceEqDiff, k0]; try rfl)]
      simp only [simB, keep5, Nat.reduceBEq, own5, String.reduceAppend, String.reduceBEq, Bool.or_false, Bool.or_true, Bool.or_self, ↓reduceIte, Nat.reduceEqDiff, Nat.reduceAdd, simA, e4', k4, st_Tt, stT_6, hK2, hK]
      exact finish_cY _ _ _ _ _ _ (T.mk 1 (c == 1) .l (limR y N 0) [] 0 .n []) _ _ (by simp only [zfk, ↓reduceIte, Nat.reduceEqDiff, e4']; try rfl) (by simp only [zfk, ↓reduceIte, Nat.reduceEqDiff]; try rfl) (ho _ _ (by simp only [zfk, ↓reduceIte, Nat.reduceEqDiff]; try rfl))
theorem plain110 (bs : List UInt8) (s : RS) (fr : Nat) {m : Int × RS} {o : Option (List UInt8) × RS} (hm : manyR bs s 1 1 48 = m) (ho : takeR bs m.2 (1 + m.1.toNat) = o) :
    plainR bs s 110 fr = (.mk 1 (bigR (o.1.getD [])).1 (bigR (o.1.getD [])).2.1 (bigR (o.1.getD [])).2.2 [] 0 .n [], endR bs o.2 (.mk 1 (bigR (o.1.getD [])).1 (bigR (o.1.getD [])).2.1 (bigR (o.1.getD [])).2.2 [] 0 .n []) fr) := by
  subst hm; subst ho; rfl
def bigTZ (bs : List UInt8) (s : RS) : T := bigZ ((takeR bs (manyR bs s 1 1 48).2 ((manyR bs s 1 1 48).1.toNat + 1)).1.getD []) (((manyR bs s 1 1 48).1.toNat + 3) / 4)
theorem bigTZ_eq (bs : List UInt8) (s : RS) (fr : Nat) (he : (plainR bs s 110 fr).2.e = 0) : bigTZ bs s = (plainR bs s 110 fr).1 := by
  obtain ⟨m, hm⟩ : ∃ m, manyR bs s 1 1 48 = m := ⟨_, rfl⟩
  obtain ⟨hm0, hm48⟩ : 0 ≤ m.1 ∧ m.1 ≤ 48 := by rw [← hm]; exact manyR_range (by decide) (by decide)
  obtain ⟨v, hv⟩ : ∃ v : Nat, m.1 = (v : Int) := ⟨m.1.toNat, by omega⟩
  obtain ⟨o, hoo⟩ : ∃ o, takeR bs m.2 (v + 1) = o := ⟨_, rfl⟩
  have hlen0 : o.2.e = 0 → (o.1.getD []).length = v + 1 ∧ 1 ≤ v := fun he => by
    have h1 : m.2.e = 0 ∧ m.2.i + (v + 1) ≤ bs.length := by
      by_cases hc : m.2.e ≠ 0 ∨ bs.length < m.2.i + (v + 1)
      · rw [takeR_short hc] at hoo
        rw [← hoo] at he
        exfalso
        by_cases h0 : m.2.e = 0
        · rw [fail3 h0] at he; cases he
        · rw [fail_keep 3 h0] at he; exact h0 he
      · exact ⟨by omega, by omega⟩
    rw [takeR_is h1.1 h1.2] at hoo
    have h2 := manyR_e (bs := bs) (s := s) (k := 1) (a := 1) (b := 48) (by rw [hm]; exact h1.1)
    rw [hm] at h2
    refine ⟨?_, by omega⟩
    rw [← hoo]
    simp only [Option.getD_some, List.length_take, List.length_drop]; omega
  have hpl := plain110 bs s fr hm (o := o) (by rw [hv, Int.toNat_natCast, Nat.add_comm]; exact hoo)
  have hPe : o.2.e = 0 → bigZ (o.1.getD []) ((v + 3) / 4) = .mk 1 (bigR (o.1.getD [])).1 (bigR (o.1.getD [])).2.1 (bigR (o.1.getD [])).2.2 [] 0 .n [] := fun he => by
    obtain ⟨h1, h2⟩ := hlen0 he
    generalize o.1.getD [] = x at h1
    unfold bigR bigZ
    rw [if_neg (by omega), h1]
  have hbz : bigTZ bs s = bigZ (o.1.getD []) ((v + 3) / 4) := by
    unfold bigTZ
    rw [hm, hv, Int.toNat_natCast, hoo]
  rw [hpl] at he ⊢
  rw [hbz]
  dsimp only at he ⊢
  refine hPe ?_
  by_cases h : o.2.e = 0
  · exact h
  · exfalso; unfold endR at he; rw [if_neg (fun h' => h h'.1)] at he; exact h he
set_option maxHeartbeats 4000000 in
theorem rbigR_eq (n E : Nat) (hn : 2200 ≤ n) (hd : 6015 ≤ E) (bs : List UInt8) (g : Grip) (s : RS) (hs : okR bs s) (fr : Nat) (hf : fr < s.i) :
    evalFn Try.prog cfg5 n (E+4) 64 [.ptr (rC bs g s) 0, .tree (.int .i64 (fr : Int))] = some (.tree (encT (bigTZ bs s)), [rC bs g (plainR bs s 110 fr).2, []]) := by
  obtain ⟨m, hm⟩ : ∃ m, manyR bs s 1 1 48 = m := ⟨_, rfl⟩
  have hm1 : okR bs m.2 := by rw [← hm]; exact manyR_ok hs
  obtain ⟨hm0, hm48⟩ : 0 ≤ m.1 ∧ m.1 ≤ 48 := by rw [← hm]; exact manyR_range (by decide) (by decide)
  obtain ⟨v, hv⟩ : ∃ v : Nat, m.1 = (v : Int) := ⟨m.1.toNat, by omega⟩
  obtain ⟨o, hoo⟩ : ∃ o, takeR bs m.2 (v + 1) = o := ⟨_, rfl⟩
  have ho1 : okR bs o.2 := by rw [← hoo]; exact takeR_ok hm1
  have hlen : o.1.getD [] = [] ∨ (o.1.getD []).length = v + 1 := by
    rw [← hoo]
    unfold takeR
    split
    · exact .inl rfl
    · rename_i h
      refine .inr ?_
      simp only [Option.getD_some, List.length_take, List.length_drop]; omega
  have hfr : fr < o.2.i := by
    have h1 := (manyR_mono (bs := bs) (s := s) (k := 1) (a := 1) (b := 48)).1
    have h2 := (takeR_mono (bs := bs) (s := m.2) (k := v + 1)).1
    rw [hm] at h1; rw [hoo] at h2; omega
  have hlen0 : o.2.e = 0 → (o.1.getD []).length = v + 1 ∧ 1 ≤ v := fun he => by
    have h1 : m.2.e = 0 ∧ m.2.i + (v + 1) ≤ bs.length := by
      by_cases hc : m.2.e ≠ 0 ∨ bs.length < m.2.i + (v + 1)
      · rw [takeR_short hc] at hoo
        rw [← hoo] at he
        exfalso
        by_cases h0 : m.2.e = 0
        · rw [fail3 h0] at he; cases he
        · rw [fail_keep 3 h0] at he; exact h0 he
      · exact ⟨by omega, by omega⟩
    rw [takeR_is h1.1 h1.2] at hoo
    have h2 := manyR_e (bs := bs) (s := s) (k := 1) (a := 1) (b := 48) (by rw [hm]; exact h1.1)
    rw [hm] at h2
    refine ⟨?_, by omega⟩
    rw [← hoo]
    simp only [Option.getD_some, List.length_take, List.length_drop]; omega
  have hpl := plain110 bs s fr hm (o := o) (by rw [hv, Int.toNat_natCast, Nat.add_comm]; exact hoo)
  have hPe : o.2.e = 0 → bigZ (o.1.getD []) ((v + 3) / 4) = .mk 1 (bigR (o.1.getD [])).1 (bigR (o.1.getD [])).2.1 (bigR (o.1.getD [])).2.2 [] 0 .n [] := fun he => by
    obtain ⟨h1, h2⟩ := hlen0 he
    generalize o.1.getD [] = x at h1
    unfold bigR bigZ
    rw [if_neg (by omega), h1]
  have hst : endR bs o.2 (.mk 1 (bigR (o.1.getD [])).1 (bigR (o.1.getD [])).2.1 (bigR (o.1.getD [])).2.2 [] 0 .n []) fr = endR bs o.2 (bigZ (o.1.getD []) ((v + 3) / 4)) fr := by
    by_cases he : o.2.e = 0
    · rw [hPe he]
    · unfold endR
      rw [if_neg (fun h => he h.1), if_neg (fun h => he h.1)]
  have hbz : bigTZ bs s = bigZ (o.1.getD []) ((v + 3) / 4) := by
    unfold bigTZ
    rw [hm, hv, Int.toNat_natCast, hoo]
  rw [hpl, hbz]
  dsimp only
  rw [hst]
  · have cc := fun D (st : St) (hp : st 0 = ⟨0, .buf (rC bs g s)⟩) => callA_ptr (call := evalFn Try.prog cfg5 n (E+3)) [.int .i64 1, .int .i64 1, .int .i64 48] rfl (rcount_eq n E (by omega) bs g s 1 1 48 hs (by decide)) D hp
    rw [hm, hv] at cc
    have ct := fun D (st : St) (hp : st 0 = ⟨0, .buf (rC bs g m.2)⟩) => callA_ptr (call := evalFn Try.prog cfg5 n (E+3)) [.int .i64 ((v + 1 : Nat) : Int)] rfl (rtext_eq n (E+1) bs g m.2 (v + 1) hm1 (by omega)) D hp
    rw [hoo] at ct
    have a1 := i_add Try.prog 3 (v : Int) 1 (by omega) (by omega)
    rw [show (v : Int) + 1 = ((v + 1 : Nat) : Int) by omega] at a1
    rw [evalFn_go _ Try.func64 (by unfold Try.f64; rfl) (by unfold Try.f64; decide) (Nat.le_of_ble_eq_true (by unfold Try.f64; rfl)) (by kernel_rfl)]
    have e0 : env0 [.ptr (rC bs g s) 0, .tree (.int .i64 (fr : Int))] 0 = .ptr 0 0 0 := rfl
    have e1 : env0 [.ptr (rC bs g s) 0, .tree (.int .i64 (fr : Int))] 1 = .int .i64 (fr : Int) := rfl
    have j0 : st0 [.ptr (rC bs g s) 0, .tree (.int .i64 (fr : Int))] 0 = ⟨0, .buf (rC bs g s)⟩ := rfl
    have j4 : (st0 [.ptr (rC bs g s) 0, .tree (.int .i64 (fr : Int))] 4).t = 0 := rfl
    have j18 : (st0 [.ptr (rC bs g s) 0, .tree (.int .i64 (fr : Int))] 18).t = 0 := rfl
    have ho : ∀ s' ys, s' 0 = ⟨0, .buf ys⟩ → outsA s' 0 [.ptr (rC bs g s) 0, .tree (.int .i64 (fr : Int))] = some [ys, []] := fun s' ys h => outs_ptr s' (rC bs g s) ys h [.int .i64 (fr : Int)]
    generalize [Arg.ptr (rC bs g s) 0, .tree (.int .i64 (fr : Int))] = as1 at e0 e1 j0 j4 j18 ho
    generalize env0 as1 = env at e0 e1
    generalize st0 as1 = st at j0 j4 j18
    show den Try.prog cfg5 _ n (.seq (seqL bgC) (.seq (seqL (seqR bgC)) (.seq (seqL (seqR (seqR bgC))) bg1))) _ _ _ = _
    simp only [seqL, seqR, bgC, Try.f64, Option.getD_some]
    simp only [simB, keep5, Nat.reduceBEq, own5, String.reduceAppend, String.reduceBEq, Bool.or_false, Bool.or_true, Bool.or_self, ↓reduceIte, Nat.reduceEqDiff, Nat.reduceAdd, simA, simL, simN, Nat.zero_add, e0, e1, j0, j4, zeroT, cc, a1, ct]
    exact bg1_eq n (E+1) hn (by omega) bs g o.2 ho1 fr (.inl hfr) (o.1.getD []) v _ (by omega) rfl hlen as1 _ ho _ (fun _ _ => rfl) (fun _ _ => rfl) _ _ (by simp only [zfk, ↓reduceIte, Nat.reduceEqDiff, e0]; try rfl) (by simp only [zfk, ↓reduceIte, Nat.reduceEqDiff, e1]; try rfl) (by simp only [zfk, ↓reduceIte, Nat.reduceEqDiff]; try rfl) (by simp only [zfk, ↓reduceIte, Nat.reduceEqDiff]; try rfl) (by simp only [zfk, ↓reduceIte, Nat.reduceEqDiff]; try rfl) (by simp only [zfk, ↓reduceIte, Nat.reduceEqDiff]; try rfl) (by simp only [zfk, ↓reduceIte, Nat.reduceEqDiff]; try rfl) (by simp only [zfk, ↓reduceIte, Nat.reduceEqDiff, j18]; try rfl)
end Go.Ab

/- The reference's reading in plain words, beside the program's. No conditions. -/
namespace Go.Ab
open Go.Proofs
set_option maxRecDepth 100000
set_option linter.unusedSimpArgs false

mutual
def bareT : T → T
  | .mk k b _ l s n _ ks => .mk k b .n l s n .n (bareK ks)
def bareK : List T → List T
  | [] => []
  | t :: r => bareT t :: bareK r
end
theorem bareK_len : ∀ ks : List T, (bareK ks).length = ks.length
  | [] => rfl
  | t :: r => by simp only [bareK, List.length_cons, bareK_len r]
theorem bareK_app : ∀ (a b : List T), bareK (a ++ b) = bareK a ++ bareK b
  | [], b => rfl
  | t :: r, b => by simp only [List.cons_append, bareK, bareK_app r b]
theorem bareT_kind {x y : T} (h : bareT x = bareT y) : kindT x = kindT y := by
  obtain ⟨k, b, lg, l, s, m, kg, ks⟩ := x
  obtain ⟨k', b', lg', l', s', m', kg', ks'⟩ := y
  simp only [bareT, T.mk.injEq] at h
  exact h.1
theorem bare_list : ∀ (a b : List T) (t u : T), bareK a = bareK b → bareT t = bareT u → bareT (listT a t) = bareT (listT b u)
  | [], [], t, u, _, h => h
  | [], y :: r, t, u, h, _ => by simp only [bareK] at h; cases h
  | x :: r, [], t, u, h, _ => by simp only [bareK] at h; cases h
  | x :: r, y :: q, t, u, h, h2 => by
    simp only [bareK, List.cons.injEq] at h
    simp only [listT, consT, bareT, bareK, h.1, bare_list r q t u h.2 h2]
theorem bare_tup (a b : List T) (h : bareK a = bareK b) (g g' : Gk) : bareT (tupT g a) = bareT (tupT g' b) := by
  simp only [tupT, bareT, h]
def numZT (v : Int) : T := .mk 1 (decide (v < 0)) .l (digs v.natAbs) [] 0 .n []
theorem bare_numZT (v : Int) : bareT (numZT v) = bareT (smallT v) := by simp only [numZT, smallT, bareT, bareK]
theorem endR_numZT (bs : List UInt8) (r : RS) (v : Int) (fr : Nat) : endR bs r (numZT v) fr = endR bs r (smallT v) fr := by
  have h1 : putB (numZT v) = putB (smallT v) := (putB_num _ _ _).trans (putB_num _ _ _).symm
  have h2 : ownT (numZT v) = ownT (smallT v) := rfl
  unfold endR
  rw [h1, h2]
theorem small_0 : smallT 0 = .mk 1 false .n [] [] 0 .n [] := by
  have h : digs (0 : Int).natAbs = [] := digs_0
  unfold smallT numG
  rw [h]
  rfl
theorem plain_e97 (bs : List UInt8) (s : RS) (fr : Nat) : plainR bs s 97 fr = (smallT (numR bs s 1), endR bs (takeR bs s 1).2 (smallT (numR bs s 1)) fr) := by
  have h : one97 ((takeR bs s 1).1.getD []) = smallT (numR bs s 1) := by
    have hl := takeR_len (bs := bs) (s := s) (k := 1)
    unfold numR
    obtain ⟨x, hx⟩ : ∃ x, (takeR bs s 1).1.getD [] = x := ⟨_, rfl⟩
    rw [hx] at hl ⊢
    match x, hl with
    | [], _ => exact small_0.symm
    | [c], _ => simp [one97, beV]
    | _ :: _ :: _, hl => simp only [List.length_cons] at hl; omega
  rw [← h]; rfl
theorem plain_e98 (bs : List UInt8) (s : RS) (fr : Nat) : plainR bs s 98 fr = (smallT (i32 (numR bs s 4)), endR bs (takeR bs s 4).2 (smallT (i32 (numR bs s 4))) fr) := by
  have h : (match (takeR bs s 4).1 with | some x => smallT (i32 (beV x 0)) | none => .mk 1 false .n [] [] 0 .n []) = smallT (i32 (numR bs s 4)) := by
    unfold numR
    cases (takeR bs s 4).1 with
    | none => exact small_0.symm
    | some x => rfl
  rw [← h]; rfl
def someZ (rd : RS → T × RS) : Nat → RS → List T → List T × RS
  | 0, s, acc => (acc, s)
  | n + 1, s, acc => if s.e ≠ 0 then (acc, s) else someZ rd n (rd s).2 (acc ++ [(rd s).1])
def bumpZ (m : Int × RS) : RS := ⟨m.2.i, m.2.tm + m.1, m.2.e⟩
def listZ (bs : List UInt8) (rd1 rd2 : RS → T × RS) (s : RS) : T × RS :=
  let m := manyR bs s 4 1 (2000 - s.tm)
  let h := someZ rd1 m.1.toNat (bumpZ m) []
  let t := rd2 h.2
  (listT h.1 t.1, if kindT t.1 = 4 then t.2.fail 4 else t.2)
def knownZ (tag : Nat) : Prop := tag = 97 ∨ tag = 98 ∨ tag = 104 ∨ tag = 106 ∨ tag = 108 ∨ tag = 109 ∨ tag = 110 ∨ tag = 119
instance (tag : Nat) : Decidable (knownZ tag) := by unfold knownZ; exact inferInstance
def tagZ (bs : List UInt8) (rd1 rd2 : RS → T × RS) (deep : Int) (s : RS) (tag fr : Nat) : T × RS :=
  if ¬ knownZ tag ∨ s.tm ≥ 2000 ∨ deep > 60 then (T0, s.fail 4)
  else if tag = 108 then listZ bs rd1 rd2 s
  else if tag = 104 then
    let m := manyR bs ⟨s.i, s.tm + 1, s.e⟩ 1 0 40
    let h := someZ rd1 m.1.toNat m.2 []
    (tupT (kgOf h.1) h.1, h.2)
  else if tag = 110 then (bigTZ bs ⟨s.i, s.tm + 1, s.e⟩, (plainR bs ⟨s.i, s.tm + 1, s.e⟩ 110 fr).2)
  else if tag = 97 then (numZT (numR bs ⟨s.i, s.tm + 1, s.e⟩ 1), (plainR bs ⟨s.i, s.tm + 1, s.e⟩ 97 fr).2)
  else if tag = 98 then (numZT (i32 (numR bs ⟨s.i, s.tm + 1, s.e⟩ 4)), (plainR bs ⟨s.i, s.tm + 1, s.e⟩ 98 fr).2)
  else plainR bs ⟨s.i, s.tm + 1, s.e⟩ tag fr
def termZ (bs : List UInt8) : Nat → Int → RS → T × RS
  | 0, _, s => (T0, s)
  | f + 1, deep, s => if (takeR bs s 1).2.e ≠ 0 then (T0, (takeR bs s 1).2) else tagZ bs (termZ bs f (deep + 1)) (termZ bs f deep) deep (takeR bs s 1).2 (((takeR bs s 1).1.getD []).headD 0).toNat s.i

def LikeR (bs : List UInt8) (a b : T × RS) : Prop := InvR bs a.2 ∧ a.2.e = b.2.e ∧ (b.2.e = 0 → a.2 = b.2 ∧ bareT a.1 = bareT b.1)
def LikeK (bs : List UInt8) (a b : List T × RS) : Prop := InvR bs a.2 ∧ a.2.e = b.2.e ∧ (b.2.e = 0 → a.2 = b.2 ∧ bareK a.1 = bareK b.1)
theorem someR_no {rd : RS → T × RS} (hr : ∀ s, s.e ≠ 0 → (rd s).2.e = s.e) (n : Nat) (s : RS) (acc : List T) (h : s.e ≠ 0) : (someR rd n s acc).2.e = s.e := by
  cases n with
  | zero => rfl
  | succ n =>
    simp only [someR]
    have := hr s h
    rw [if_pos (by rw [this]; exact h)]
    exact this
theorem like_some {bs : List UInt8} {rz rd : RS → T × RS} (hr : ∀ s, s.e ≠ 0 → (rd s).2.e = s.e) (H : ∀ s, InvR bs s → s.e = 0 → LikeR bs (rz s) (rd s)) : ∀ (n : Nat) (s : RS) (acc acc' : List T), InvR bs s → bareK acc = bareK acc' → LikeK bs (someZ rz n s acc) (someR rd n s acc')
  | 0, s, acc, acc', hs, ha => ⟨hs, rfl, fun _ => ⟨rfl, ha⟩⟩
  | n + 1, s, acc, acc', hs, ha => by
    by_cases he : s.e = 0
    · obtain ⟨h1, h2, h3⟩ := H s hs he
      have hz : someZ rz (n + 1) s acc = someZ rz n (rz s).2 (acc ++ [(rz s).1]) := by
        simp only [someZ]; rw [if_neg (fun h => h he)]
      rw [hz]
      by_cases h0 : (rd s).2.e = 0
      · obtain ⟨h4, h5⟩ := h3 h0
        have hd : someR rd (n + 1) s acc' = someR rd n (rd s).2 (acc' ++ [(rd s).1]) := by
          simp only [someR]; rw [if_neg (fun h => h h0)]
        rw [hd, h4]
        exact like_some hr H n _ _ _ (by rw [← h4]; exact h1) (by rw [bareK_app, bareK_app, ha]; simp only [bareK, h5])
      · have hd : someR rd (n + 1) s acc' = (acc', (rd s).2) := by
          simp only [someR]; rw [if_pos h0]
        rw [hd]
        have hz2 : ∀ (m : Nat) (s : RS) (acc : List T), s.e ≠ 0 → someZ rz m s acc = (acc, s) := fun m s acc hh => by
          cases m with
          | zero => rfl
          | succ m => simp only [someZ]; rw [if_pos hh]
        rw [hz2 n _ _ (by rw [h2]; exact h0)]
        exact ⟨h1, h2, fun h => absurd h h0⟩
    · have hz : someZ rz (n + 1) s acc = (acc, s) := by simp only [someZ]; rw [if_pos he]
      have hd := someR_no hr (n + 1) s acc' he
      rw [hz]
      exact ⟨hs, hd.symm, fun h => absurd h (by rw [hd]; exact he)⟩
theorem takeR_off {bs : List UInt8} {s : RS} {k : Nat} (h : s.e ≠ 0) : takeR bs s k = (none, s) := by
  rw [takeR_short (.inl h), fail_keep 3 h]
theorem termR_off {bs : List UInt8} {f : Nat} {deep : Int} {s : RS} (h : s.e ≠ 0) : termR bs f deep s = (T0, s) := by
  cases f with
  | zero => rfl
  | succ f =>
    simp only [termR, takeR_off h]
    rw [if_pos h]
theorem termZ_off {bs : List UInt8} {f : Nat} {deep : Int} {s : RS} (h : s.e ≠ 0) : termZ bs f deep s = (T0, s) := by
  cases f with
  | zero => rfl
  | succ f =>
    simp only [termZ, takeR_off h]
    rw [if_pos h]
theorem fail4_e {s : RS} (h : s.e = 0) : (s.fail 4).e = 4 := by unfold RS.fail; rw [if_pos h]
theorem takeR_tm (bs : List UInt8) (i : Nat) (t t' : Int) (k : Nat) : takeR bs ⟨i, t', 0⟩ k = ((takeR bs ⟨i, t, 0⟩ k).1, ⟨(takeR bs ⟨i, t, 0⟩ k).2.i, t', (takeR bs ⟨i, t, 0⟩ k).2.e⟩) := by
  by_cases h : bs.length < i + k
  · rw [takeR_short (.inr h), takeR_short (.inr h)]; rfl
  · rw [takeR_is rfl (by dsimp only; omega), takeR_is rfl (by dsimp only; omega)]
theorem manyR_tm (bs : List UInt8) (i : Nat) (t t' : Int) (k : Nat) (a b : Int) : manyR bs ⟨i, t', 0⟩ k a b = ((manyR bs ⟨i, t, 0⟩ k a b).1, ⟨(manyR bs ⟨i, t, 0⟩ k a b).2.i, t', (manyR bs ⟨i, t, 0⟩ k a b).2.e⟩) := by
  unfold manyR
  dsimp only
  rw [takeR_tm bs i t t' k]
  dsimp only
  obtain ⟨o, ho⟩ : ∃ o, takeR bs ⟨i, t, 0⟩ k = o := ⟨_, rfl⟩
  rw [ho]
  obtain ⟨x, r⟩ := o
  obtain ⟨ri, rt, re⟩ := r
  dsimp only
  by_cases he : re = 0
  · subst he
    have hn : ¬ (0 : Int) ≠ 0 := fun h => h rfl
    rw [if_neg hn, if_neg hn]
    by_cases hc : beV (x.getD []) 0 < a ∨ b < beV (x.getD []) 0
    · rw [if_pos hc, if_pos hc]; rfl
    · rw [if_neg hc, if_neg hc]
  · rw [if_pos he, if_pos he]
theorem bump_ZR (bs : List UInt8) (i : Nat) (t : Int) (b : Int) : bumpZ (manyR bs ⟨i, t, 0⟩ 4 1 b) = bumpR (manyR bs ⟨i, t + 1, 0⟩ 4 1 b) ∧ (manyR bs ⟨i, t, 0⟩ 4 1 b).1 = (manyR bs ⟨i, t + 1, 0⟩ 4 1 b).1 := by
  rw [manyR_tm bs i t (t + 1) 4 1 b]
  refine ⟨?_, rfl⟩
  have h := (manyR_mono (bs := bs) (s := ⟨i, t, 0⟩) (k := 4) (a := 1) (b := b)).2
  unfold bumpZ bumpR
  rw [h]
  dsimp only
  congr 1
  omega
theorem like_list {bs : List UInt8} {rz1 rz2 rd1 rd2 : RS → T × RS} (hr : ∀ s, s.e ≠ 0 → (rd1 s).2.e = s.e) (H1 : ∀ s, InvR bs s → s.e = 0 → LikeR bs (rz1 s) (rd1 s)) (H2 : ∀ s, InvR bs s → s.e = 0 → LikeR bs (rz2 s) (rd2 s))
    (hz2 : ∀ s, s.e ≠ 0 → rz2 s = (T0, s)) (hd2 : ∀ s, s.e ≠ 0 → rd2 s = (T0, s)) (i : Nat) (t : Int) (hs : InvR bs ⟨i, t + 1, 0⟩) (ht : 1 ≤ t + 1) : LikeR bs (listZ bs rz1 rz2 ⟨i, t, 0⟩) (listR bs rd1 rd2 ⟨i, t + 1, 0⟩) := by
  unfold listZ listR
  dsimp only
  have e1 : (2001 : Int) - (t + 1) = 2000 - t := by omega
  rw [e1]
  obtain ⟨b1, b2⟩ := bump_ZR bs i t (2000 - t)
  rw [b1, b2]
  have hb := (bumpR_inv hs ht).1
  dsimp only at hb
  rw [e1] at hb
  have hk := like_some hr H1 (manyR bs ⟨i, t + 1, 0⟩ 4 1 (2000 - t)).1.toNat _ [] [] hb rfl
  obtain ⟨hz, hhz⟩ : ∃ hz, someZ rz1 (manyR bs ⟨i, t + 1, 0⟩ 4 1 (2000 - t)).1.toNat (bumpR (manyR bs ⟨i, t + 1, 0⟩ 4 1 (2000 - t))) [] = hz := ⟨_, rfl⟩
  obtain ⟨hd, hhd⟩ : ∃ hd, someR rd1 (manyR bs ⟨i, t + 1, 0⟩ 4 1 (2000 - t)).1.toNat (bumpR (manyR bs ⟨i, t + 1, 0⟩ 4 1 (2000 - t))) [] = hd := ⟨_, rfl⟩
  rw [hhz, hhd] at hk
  rw [hhz, hhd]
  obtain ⟨k1, k2, k3⟩ := hk
  by_cases he : hd.2.e = 0
  · obtain ⟨k4, k5⟩ := k3 he
    rw [k4]
    obtain ⟨l1, l2, l3⟩ := H2 hd.2 (by rw [← k4]; exact k1) he
    by_cases h0 : (rd2 hd.2).2.e = 0
    · obtain ⟨l4, l5⟩ := l3 h0
      have hkd := bareT_kind l5
      rw [l4, hkd]
      by_cases h4 : kindT (rd2 hd.2).1 = 4
      · rw [if_pos h4]
        refine ⟨by rw [← l4]; exact l1.fail (by decide), rfl, fun h => ?_⟩
        rw [fail4_e h0] at h; cases h
      · rw [if_neg h4]
        exact ⟨by rw [← l4]; exact l1, rfl, fun _ => ⟨rfl, bare_list _ _ _ _ k5 l5⟩⟩
    · have hz0 : (rz2 hd.2).2.e ≠ 0 := by rw [l2]; exact h0
      have f1 : ∀ c : Prop, ∀ [Decidable c], (if c then (rz2 hd.2).2.fail 4 else (rz2 hd.2).2) = (rz2 hd.2).2 := fun c _ => by
        rw [fail_keep 4 hz0]; split <;> rfl
      have f2 : ∀ c : Prop, ∀ [Decidable c], (if c then (rd2 hd.2).2.fail 4 else (rd2 hd.2).2) = (rd2 hd.2).2 := fun c _ => by
        rw [fail_keep 4 h0]; split <;> rfl
      rw [f1, f2]
      exact ⟨l1, l2, fun h => absurd h h0⟩
  · have hz0 : hz.2.e ≠ 0 := by rw [k2]; exact he
    rw [hz2 _ hz0, hd2 _ he]
    have h4 : ¬ kindT T0 = 4 := by show ¬ (0 : Int) = 4; decide
    rw [if_neg h4, if_neg h4]
    exact ⟨k1, k2, fun h => absurd h he⟩
theorem like_tag {bs : List UInt8} (f : Nat) (H : ∀ (deep : Int) (s : RS), InvR bs s → s.e = 0 → LikeR bs (termZ bs f deep s) (termR bs f deep s)) (deep : Int) (i : Nat) (t : Int) (hs0 : InvR bs ⟨i, t, 0⟩) (tag fr : Nat) :
    LikeR bs (tagZ bs (termZ bs f (deep + 1)) (termZ bs f deep) deep ⟨i, t, 0⟩ tag fr) (tagR bs f deep ⟨i, t + 1, 0⟩ tag fr) := by
  have htm := hs0.ok rfl
  dsimp only at htm
  unfold tagZ tagR
  dsimp only
  have hi := hs0.i
  have hl := hs0.len
  dsimp only at hi
  have hf : ∀ u : Int, -1 ≤ u → u ≤ 2001 → InvR bs ⟨i, u, 4⟩ := fun u h1 h2 => ⟨hi, hl, h1, h2, fun h => by cases h⟩
  by_cases hb : t + 1 > 2000 ∨ deep > 60
  · rw [if_pos hb, if_pos (.inr (by omega))]
    exact ⟨hf t (by omega) (by omega), rfl, fun h => by cases h⟩
  · rw [if_neg hb]
    have hs1 : InvR bs ⟨i, t + 1, 0⟩ := ⟨hi, hl, by dsimp only; omega, by dsimp only; omega, fun _ => by dsimp only; omega⟩
    have hr1 : ∀ s, s.e ≠ 0 → (termR bs f (deep + 1) s).2.e = s.e := fun s h => by rw [termR_off h]
    by_cases hk : knownZ tag
    · rw [if_neg (fun h => by rcases h with h | h | h <;> first | exact h hk | omega)]
      have same : ∀ x : T × RS, InvR bs x.2 → LikeR bs x x := fun x h => ⟨h, rfl, fun _ => ⟨rfl, rfl⟩⟩
      by_cases h8 : tag = 108
      · rw [if_pos h8, if_neg (by omega), if_pos h8]
        exact like_list hr1 (H (deep + 1)) (H deep) (fun s h => termZ_off h) (fun s h => termR_off h) i t hs1 (by omega)
      · rw [if_neg h8]
        by_cases h4 : tag = 104
        · rw [if_pos h4, if_neg (by omega), if_neg h8, if_pos h4]
          have hm := hs1.many (k := 1) (a := 0) (b := 40)
          obtain ⟨k1, k2, k3⟩ := like_some hr1 (H (deep + 1)) (manyR bs ⟨i, t + 1, 0⟩ 1 0 40).1.toNat _ [] [] hm rfl
          exact ⟨k1, k2, fun h => ⟨(k3 h).1, bare_tup _ _ (k3 h).2 _ _⟩⟩
        · rw [if_neg h4]
          have hp := (plainR_inv hs1 tag fr).1
          by_cases h0 : tag = 110
          · rw [if_pos h0, if_pos (by omega)]
            subst h0
            exact ⟨hp, rfl, fun h => ⟨rfl, by rw [bigTZ_eq bs _ fr h]⟩⟩
          · rw [if_neg h0]
            by_cases h97 : tag = 97
            · rw [if_pos h97, if_pos (by omega)]
              subst h97
              refine ⟨hp, rfl, fun _ => ⟨rfl, ?_⟩⟩
              rw [plain_e97]
              exact bare_numZT _
            · rw [if_neg h97]
              by_cases h98 : tag = 98
              · rw [if_pos h98, if_pos (by omega)]
                subst h98
                refine ⟨hp, rfl, fun _ => ⟨rfl, ?_⟩⟩
                rw [plain_e98]
                exact bare_numZT _
              · rw [if_neg h98]
                unfold knownZ at hk
                rw [if_pos (by omega)]
                exact same _ hp
    · rw [if_pos (.inl hk)]
      unfold knownZ at hk
      rw [if_neg (by omega), if_neg (by omega), if_neg (by omega)]
      exact ⟨hf t (by omega) (by omega), rfl, fun h => by cases h⟩
theorem like_term (bs : List UInt8) : ∀ (f : Nat) (deep : Int) (s : RS), InvR bs s → s.e = 0 → LikeR bs (termZ bs f deep s) (termR bs f deep s)
  | 0, deep, s, hs, _ => ⟨hs, rfl, fun _ => ⟨rfl, rfl⟩⟩
  | f + 1, deep, s, hs, he0 => by
    by_cases he : (takeR bs s 1).2.e = 0
    · obtain ⟨h2, h3, h4, h5⟩ := stepR hs he
      obtain ⟨c, hc, _⟩ := take1 h4
      rw [termR_step hs he f deep hc]
      simp only [termZ]
      rw [if_neg (fun h => h he), h2, h5, hc]
      have htm := hs.ok he0
      have hs0 : InvR bs ⟨s.i + 1, s.tm, 0⟩ := ⟨h4, hs.len, by dsimp only; omega, by dsimp only; omega, fun _ => htm⟩
      exact like_tag f (fun deep s hs he => like_term bs f deep s hs he) deep (s.i + 1) s.tm hs0 c.toNat s.i
    · simp only [termZ, termR]
      rw [if_pos he, if_pos he]
      exact ⟨hs.take, rfl, fun _ => ⟨rfl, rfl⟩⟩
end Go.Ab

/- The reference's list read (CFG5). Conditions: places in range. -/
namespace Go.Ab
open Go.Proofs
set_option maxRecDepth 100000
set_option linter.unusedSimpArgs false

def InvL (bs : List UInt8) (lo : Nat) (s : RS) : Prop := InvR bs s ∧ (s.e = 0 → lo ≤ s.i)
def TermY (n D : Nat) (bs : List UInt8) (g : Grip) (deep : Int) (rd : RS → T × RS) (lo : Nat) : Prop := ∀ s, InvL bs lo s → evalFn Try.prog cfg5 n D 32 [.ptr (rC bs g s) 0, .tree (.int .i64 deep)] = some (.tree (encT (rd s).1), [rC bs g (rd s).2, []])
theorem Ap.at' {s : St} {d : Nat} {x y : AV} {us : List T} (h : Ap s d x us) (hx : y = x) : Ap s d y us := by rw [hx]; exact h
theorem callA_ApL {call : FuncId → List Arg → Option Out} {d D : Nat} {s s' : St} {f : FuncId} {x v r : AV} {us : List T} (ap : Ap s d x us) (hl : cfg5.lin f 0 = false) (hv : isTree v = true) (hc : call f [.tree (.sl (cellsK us) us.length (gr (kgOf us))), .tree v] = some (.tree r, [[], []])) : callA cfg5 call D s' f [x, v] = some (r, s') := by
  rcases ap with ⟨rfl, rfl⟩ | ⟨hu, t, rfl, _⟩
  · exact callA_trees (vs := [.sl [] 0 .nil, v]) (by show (true && (isTree v && true)) = true; rw [hv]; rfl) hc
  · have h1 : argsA cfg5 f s' 1 [v] = some [Arg.tree v] := argsA_trees f s' [v] 1 (by simp only [List.all_cons, hv, List.all_nil, Bool.and_self])
    have h2 : argA cfg5 f s' 0 (.sl (cellsK us) us.length (.tok d t)) = some (.tree (.sl (cellsK us) us.length .loose)) := by
      simp only [argA, hl]; rfl
    have hg : gr (kgOf us) = .loose := by rw [kgOf, if_neg hu]; rfl
    rw [hg] at hc
    have g1 : givesOf v (Arg.tree v) = none := by
      cases v <;> first | rfl | (rename_i g; cases g <;> rfl)
    have g2 : lendsOf v (Arg.tree v) = none := by
      cases v <;> first | rfl | cases hv
    have h3 : argsA cfg5 f s' 0 [.sl (cellsK us) us.length (.tok d t), v] = some [.tree (.sl (cellsK us) us.length .loose), .tree v] := by
      rw [argsA, h2, Option.bind_some, h1]; rfl
    have g3 : givesL [.sl (cellsK us) us.length (.tok d t), v] [.tree (.sl (cellsK us) us.length .loose), .tree v] = [] := by
      simp only [givesL, g1]; rfl
    have g4 : lendsL [.sl (cellsK us) us.length (.tok d t), v] [.tree (.sl (cellsK us) us.length .loose), .tree v] = [] := by
      simp only [lendsL, g2]; rfl
    have g5 : backA s' [.sl (cellsK us) us.length (.tok d t), v] [.tree (.sl (cellsK us) us.length .loose), .tree v] [[], []] = some s' := by
      simp only [backA, g1]; rfl
    simp only [callA, h3, Option.bind_some, g3, g4, List.nodup_nil, List.not_mem_nil, false_implies, implies_true, and_self, if_true, hc, List.foldl_nil, ite_self, g5, resA]
noncomputable def rlC : Code := (Try.f61.body).getD .skip
noncomputable def rl1 : Code := seqR rlC
noncomputable def rl2 : Code := seqR rl1
noncomputable def rl3 : Code := seqR rl2
noncomputable def rl4 : Code := seqR rl3
noncomputable def rl5 : Code := seqR rl4
set_option maxHeartbeats 4000000 in
theorem rl5_eq (n d : Nat) (bs : List UInt8) (g : Grip) (deep : Int) (rd2 : RS → T × RS) (lo : Nat) (H2 : TermY n (d+1) bs g deep rd2 lo) (r : RS) (hr : InvL bs lo r) (us : List T) (hul : us.length ≤ 1000000)
    (as1 : List Arg) (os : List (List AV)) (ho : ∀ s ys, s 0 = ⟨0, .buf ys⟩ → outsA s 0 as1 = some (ys :: os)) (K : Kont)
    (hK2 : ∀ env s, K .ret env s = finishP Try.prog false as1 #[.cell 4 28] env s) (env : Env) (st : St) (e0 : env 0 = .ptr 0 0 0) (e1 : env 1 = .int .i64 deep) (e4 : env 4 = .ptr 4 1 0) (ap : Ap st 43 (env 6) us)
    (j0 : st 0 = ⟨0, .buf (rC bs g r)⟩) (j4 : st 4 = ⟨1, .buf [.int .i64 0, .bool false, .sl [] 0 .nil, .str [], .int .i64 0, .sl [] 0 .nil]⟩) (j8 : (st 8).t = 0) :
    den Try.prog cfg5 (evalFn Try.prog cfg5 n (d+1)) n rl5 K env st = some (.tree (encT (listT us (rd2 r).1)), rC bs g (if kindT (rd2 r).1 = 4 then (rd2 r).2.fail 4 else (rd2 r).2) :: os) := by
  have ct := fun D' (st : St) (hp : st 0 = ⟨0, .buf (rC bs g r)⟩) => callA_ptr (call := evalFn Try.prog cfg5 n (d+1)) [.int .i64 deep] rfl (H2 r hr) D' hp
  obtain ⟨q, hq⟩ : ∃ q, rd2 r = q := ⟨_, rfl⟩
  rw [hq] at ct
  rw [hq]
  obtain ⟨tl, r2⟩ := q
  dsimp only at ct ⊢
  have cf := fun D' (st : St) (hp : st 0 = ⟨0, .buf (rC bs g r2)⟩) => callA_ptr (call := evalFn Try.prog cfg5 n (d+1)) [.int .i64 4] rfl (rwrong_eq n d bs g r2 4) D' hp
  have cl0 : evalFn Try.prog cfg5 n (d+1) 85 [.tree (.sl (cellsK us) us.length (gr (kgOf us))), .tree (encT tl)] = some (.tree (encT (listT us tl)), [[], []]) := ev5 rfl (rList_eq 9223372036854775808 6189 us _ tl (by omega) hul)
  have cl := fun D' st => callA_ApL (call := evalFn Try.prog cfg5 n (d+1)) (D := D') (s' := st) ap (f := 85) rfl rfl cl0
  simp only [encT] at ct cl
  obtain ⟨k, b, lg, l, x, mm, kg, ks⟩ := tl
  obtain ⟨w2, hw2⟩ : ∃ w2, listT us (.mk k b lg l x mm kg ks) = w2 := ⟨_, rfl⟩
  rw [hw2] at cl
  rw [hw2]
  have hkd : kindT (.mk k b lg l x mm kg ks) = k := rfl
  rw [hkd]
  simp only [cellsT] at ct cl
  have stt := fun s p k' => st_Tt s p k' (.mk k b lg l x mm kg ks)
  have st6 := fun t k' p st => stT_6 t k' p st (.int .i64 0) (.bool false) (.sl [] 0 .nil) (.str []) (.int .i64 0) (.sl [] 0 .nil) (.mk k b lg l x mm kg ks)
  have stw := fun s p k' => st_Tt s p k' w2
  have st6w := fun t k' p st => stT_6 t k' p st (.int .i64 0) (.bool false) (.sl [] 0 .nil) (.str []) (.int .i64 0) (.sl [] 0 .nil) w2
  have ldu := fun t k' => ldT_u t k' (.mk k b lg l x mm kg ks)
  simp only [cellsT] at stt st6 ldu
  by_cases hk : k = 4
  · have b1 : (k == 4) = true := by rw [hk]; rfl
    rw [if_pos hk]
    simp only [rl5, rl4, rl3, rl2, rl1, rlC, seqR, Try.f61, Option.getD_some, simB, keep5, Nat.reduceBEq, own5, String.reduceAppend, String.reduceBEq, Bool.or_false, Bool.or_true, Bool.or_self, ↓reduceIte, Nat.reduceEqDiff, Nat.reduceAdd, simA, simL, simN, Nat.zero_add, e0, e1, e4, j0, j4, j8, zeroT, ct, cl, stt, st6, stw, st6w, faT_0, ldT_0, ldT_a, ldu, Nat.reduceAdd, y_eql, b1, cf, hK2]
    exact finish_cY _ _ _ 4 4 1 w2 _ _ (by simp only [zfk, ↓reduceIte, Nat.reduceEqDiff, e4]; try rfl) (by simp only [zfk, ↓reduceIte, Nat.reduceEqDiff]; try rfl) (ho _ _ (by simp only [zfk, ↓reduceIte, Nat.reduceEqDiff]; try rfl))
  · have b1 : (k == 4) = false := beq_eq_false_iff_ne.mpr hk
    rw [if_neg hk]
    simp only [rl5, rl4, rl3, rl2, rl1, rlC, seqR, Try.f61, Option.getD_some, simB, keep5, Nat.reduceBEq, own5, String.reduceAppend, String.reduceBEq, Bool.or_false, Bool.or_true, Bool.or_self, ↓reduceIte, Nat.reduceEqDiff, Nat.reduceAdd, simA, simL, simN, Nat.zero_add, e0, e1, e4, j0, j4, j8, zeroT, ct, cl, stt, st6, stw, st6w, faT_0, ldT_0, ldT_a, ldu, Nat.reduceAdd, y_eql, b1, hK2]
    exact finish_cY _ _ _ 4 4 1 w2 _ _ (by simp only [zfk, ↓reduceIte, Nat.reduceEqDiff, e4]; try rfl) (by simp only [zfk, ↓reduceIte, Nat.reduceEqDiff]; try rfl) (ho _ _ (by simp only [zfk, ↓reduceIte, Nat.reduceEqDiff]; try rfl))
theorem someZ_off (rd : RS → T × RS) (m : Nat) (s : RS) (acc : List T) (h : s.e ≠ 0) : someZ rd m s acc = (acc, s) := by
  cases m with
  | zero => rfl
  | succ m => simp only [someZ]; rw [if_pos h]
theorem bumpZ_inv {bs : List UInt8} {s : RS} (h : InvR bs s) (h0 : s.e = 0) : InvR bs (bumpZ (manyR bs s 4 1 (2000 - s.tm))) ∧ (bumpZ (manyR bs s 4 1 (2000 - s.tm))).tm = s.tm + (manyR bs s 4 1 (2000 - s.tm)).1 := by
  have htm := h.ok h0
  have hm := h.many (k := 4) (a := 1) (b := 2000 - s.tm)
  have ht := (manyR_mono (bs := bs) (s := s) (k := 4) (a := 1) (b := 2000 - s.tm)).2
  have hr := manyR_range (bs := bs) (s := s) (k := 4) (a := 1) (b := 2000 - s.tm) (by decide) (by omega)
  unfold bumpZ
  refine ⟨⟨hm.i, hm.len, ?_, ?_, fun _ => ?_⟩, ?_⟩ <;> dsimp only <;> omega
set_option maxHeartbeats 4000000 in
theorem rlistR_eq (n D : Nat) (hn : 2200 ≤ n) (hD : 4 ≤ D) (bs : List UInt8) (g : Grip) (deep : Int) (hdp : -1000 ≤ deep ∧ deep ≤ 1000) (rd1 rd2 : RS → T × RS) (lo : Nat) (H1 : TermY n D bs g (deep + 1) rd1 lo) (H2 : TermY n D bs g deep rd2 lo) (Hi1 : ∀ s, InvL bs lo s → InvL bs lo (rd1 s).2) (s : RS) (hs : InvR bs s) (he0 : s.e = 0) (hlo : lo ≤ s.i) :
    evalFn Try.prog cfg5 n (D+1) 61 [.ptr (rC bs g s) 0, .tree (.int .i64 deep)] = some (.tree (encT (listZ bs rd1 rd2 s).1), [rC bs g (listZ bs rd1 rd2 s).2, []]) := by
  obtain ⟨d, rfl⟩ : ∃ d, D = d + 1 := ⟨D - 1, by omega⟩
  obtain ⟨dd, rfl⟩ : ∃ dd, d = dd + 2 := ⟨d - 2, by omega⟩
  rw [evalFn_go _ Try.func61 (by unfold Try.f61; rfl) (by unfold Try.f61; decide) (Nat.le_of_ble_eq_true (by unfold Try.f61; rfl)) (by kernel_rfl)]
  have e0 : env0 [.ptr (rC bs g s) 0, .tree (.int .i64 deep)] 0 = .ptr 0 0 0 := rfl
  have e1 : env0 [.ptr (rC bs g s) 0, .tree (.int .i64 deep)] 1 = .int .i64 deep := rfl
  have j0 : st0 [.ptr (rC bs g s) 0, .tree (.int .i64 deep)] 0 = ⟨0, .buf (rC bs g s)⟩ := rfl
  have j4 : (st0 [.ptr (rC bs g s) 0, .tree (.int .i64 deep)] 4).t = 0 := rfl
  have j8 : (st0 [.ptr (rC bs g s) 0, .tree (.int .i64 deep)] 8).t = 0 := rfl
  have ho : ∀ s' ys, s' 0 = ⟨0, .buf ys⟩ → outsA s' 0 [.ptr (rC bs g s) 0, .tree (.int .i64 deep)] = some [ys, []] := fun s' ys h => outs_ptr s' (rC bs g s) ys h [.int .i64 deep]
  generalize [Arg.ptr (rC bs g s) 0, .tree (.int .i64 deep)] = as1 at e0 e1 j0 j4 j8 ho
  generalize env0 as1 = env at e0 e1
  generalize st0 as1 = st at j0 j4 j8
  have htm := hs.ok he0
  obtain ⟨hb, hbt⟩ := bumpZ_inv hs he0
  have hmr := manyR_range (bs := bs) (s := s) (k := 4) (a := 1) (b := 2000 - s.tm) (by decide) (by omega)
  have hmt := (manyR_mono (bs := bs) (s := s) (k := 4) (a := 1) (b := 2000 - s.tm)).2
  have hmi := Nat.le_trans hlo (manyR_mono (bs := bs) (s := s) (k := 4) (a := 1) (b := 2000 - s.tm)).1
  have cm := fun D' (st : St) (hp : st 0 = ⟨0, .buf (rC bs g s)⟩) => callA_ptr (call := evalFn Try.prog cfg5 n (dd+3)) [.int .i64 4, .int .i64 1, .int .i64 (2000 - s.tm)] rfl (rcount_eq n dd (by omega) bs g s 4 1 (2000 - s.tm) hs.okR (by decide)) D' hp
  have f1 := i_sub Try.prog 3 2000 s.tm (by omega) (by omega)
  unfold listZ
  dsimp only
  obtain ⟨m, hm⟩ : ∃ m, manyR bs s 4 1 (2000 - s.tm) = m := ⟨_, rfl⟩
  rw [hm] at cm hb hmr hmt hmi
  rw [hm]
  obtain ⟨v, mi, mtm, me⟩ := m
  dsimp only at cm hmr hmt
  obtain ⟨c, rfl⟩ : ∃ c : Nat, v = c := ⟨v.toNat, by omega⟩
  have f3 := i_add Try.prog 3 mtm (c : Int) (by omega) (by omega)
  have hbq : bumpZ ((c : Int), ⟨mi, mtm, me⟩) = ⟨mi, mtm + (c : Int), me⟩ := rfl
  rw [hbq] at hb
  rw [hbq]
  rw [Int.toNat_natCast]
  obtain ⟨w, hw⟩ : ∃ w, someZ rd1 c ⟨mi, mtm + (c : Int), me⟩ [] = w := ⟨_, rfl⟩
  rw [hw]
  show den Try.prog cfg5 _ n (.seq (seqL rlC) (.seq (seqL rl1) (.seq (seqL rl2) (.seq (seqL rl3) (.seq (seqL rl4) rl5))))) _ _ _ = _
  simp only [rl4, rl3, rl2, rl1, rlC, seqL, seqR, Try.f61, Option.getD_some]
  simp only [rC] at j0 cm
  simp only [simB, keep5, Nat.reduceBEq, own5, String.reduceAppend, String.reduceBEq, Bool.or_false, Bool.or_true, Bool.or_self, ↓reduceIte, Nat.reduceEqDiff, Nat.reduceAdd, simA, simL, simN, Nat.zero_add, e0, e1, j0, j4, zeroT, opA_nck, nckA_p, fa63_2, ld59_2, f1, f3, cm, st_iY, stY_2, den_loop]
  refine loop_ends (X := Nat × RS × List T) (fun q env st => env 0 = .ptr 0 0 0 ∧ env 1 = .int .i64 deep ∧ env 4 = .ptr 4 1 0 ∧ env 5 = .int .i64 (c : Int) ∧ env 7 = .int .i64 (q.1 : Int) ∧ q.1 ≤ c ∧ st 0 = ⟨0, .buf (rC bs g q.2.1)⟩ ∧ st 4 = ⟨1, .buf [.int .i64 0, .bool false, .sl [] 0 .nil, .str [], .int .i64 0, .sl [] 0 .nil]⟩ ∧ (st 8).t = 0 ∧ InvL bs lo q.2.1 ∧ Ap st 43 (env 6) q.2.2 ∧ q.2.2.length ≤ q.1 ∧ someZ rd1 (c - q.1) q.2.1 q.2.2 = w) (fun q => c - q.1) (fun _ => (.tree (encT (listT w.1 (rd2 w.2).1)), [rC bs g (if kindT (rd2 w.2).1 = 4 then (rd2 w.2).2.fail 4 else (rd2 w.2).2), []])) ?_ n (0, ⟨mi, mtm + (c : Int), me⟩, []) _ _ (by dsimp only; omega) ⟨(by simp only [zfk, ↓reduceIte, Nat.reduceEqDiff, e0]; try rfl), (by simp only [zfk, ↓reduceIte, Nat.reduceEqDiff, e1]; try rfl), (by simp only [zfk, ↓reduceIte, Nat.reduceEqDiff]; try rfl), (by simp only [zfk, ↓reduceIte, Nat.reduceEqDiff]; try rfl), (by simp only [zfk, ↓reduceIte, Nat.reduceEqDiff]; try rfl), Nat.zero_le _, (by simp only [zfk, ↓reduceIte, Nat.reduceEqDiff]; try rfl), (by simp only [zfk, ↓reduceIte, Nat.reduceEqDiff]; try rfl), (by simp only [zfk, ↓reduceIte, Nat.reduceEqDiff, j8]; try rfl), ⟨hb, fun _ => hmi⟩, .inl ⟨rfl, (by simp only [zfk, ↓reduceIte, Nat.reduceEqDiff]; try rfl)⟩, Nat.le_refl _, hw⟩
  rintro rd' ⟨i, cur, acc⟩ hrd ih env1 s1 ⟨e0', e1', e4', e5, e7, hi, k0, k4, k8, hcur, ap, hacc, hfin⟩
  dsimp only at hi k0 hcur ap hacc hfin e7
  have fin := fun (hwe : w = (acc, cur)) => rl5_eq n (dd+2) bs g deep rd2 lo H2 cur hcur acc (by omega) as1 _ ho
  obtain ⟨ci, ctm, ce⟩ := cur
  by_cases hlt : i < c
  · have q1 : (i : Int) < (c : Int) := by omega
    by_cases hce : ce = 0
    · have b1 : (ce == 0) = true := by rw [hce]; rfl
      obtain ⟨m, hm'⟩ : ∃ m, c - i = m + 1 := ⟨c - i - 1, by omega⟩
      have c1 := fun D' (st : St) (hp : st 0 = ⟨0, .buf (rC bs g ⟨ci, ctm, ce⟩)⟩) => callA_ptr (call := evalFn Try.prog cfg5 n (dd+3)) [.int .i64 (deep + 1)] rfl (H1 ⟨ci, ctm, ce⟩ hcur) D' hp
      have hci := Hi1 _ hcur
      rw [hm'] at hfin
      simp only [someZ] at hfin
      rw [if_neg (fun h => h hce)] at hfin
      obtain ⟨x, hx⟩ : ∃ x, rd1 ⟨ci, ctm, ce⟩ = x := ⟨_, rfl⟩
      rw [hx] at c1 hci hfin
      obtain ⟨u, r⟩ := x
      dsimp only at c1 hci hfin
      have g8 := i_add Try.prog 3 (i : Int) 1 (by omega) (by omega)
      have g9 := i_add Try.prog 3 deep 1 (by omega) (by omega)
      simp only [encT] at c1
      have hm2 : c - (i + 1) = m := by omega
      rcases ap with ⟨h1, h2⟩ | ⟨h1, t, h2, h3⟩
      · subst h1
        have a1 := fun S => push_nil 43 S u
        simp only [rC] at k0 c1
        simp only [simB, keep5, Nat.reduceBEq, own5, String.reduceAppend, String.reduceBEq, Bool.or_false, Bool.or_true, Bool.or_self, ↓reduceIte, Nat.reduceEqDiff, Nat.reduceAdd, simA, simL, simN, Nat.zero_add, y_lss, y_eql, e0', e1', e4', e5, e7, h2, q1, k0, c1, opA_nck, nckA_p, fa63_3, ld59_3, b1, opA_one26Y, one26_T, a1, g8, g9]
        exact ih (i + 1, r, [u]) _ _ (by dsimp only; omega) rfl ⟨(by simp only [zfk, ↓reduceIte, Nat.reduceEqDiff, e0']; try rfl), (by simp only [zfk, ↓reduceIte, Nat.reduceEqDiff, e1']; try rfl), (by simp only [zfk, ↓reduceIte, Nat.reduceEqDiff, e4']; try rfl), (by simp only [zfk, ↓reduceIte, Nat.reduceEqDiff, e5]; try rfl), (by simp only [zfk, ↓reduceIte, Nat.reduceEqDiff]; try rfl), by dsimp only; omega, (by simp only [zfk, ↓reduceIte, Nat.reduceEqDiff]; try rfl), (by simp only [zfk, ↓reduceIte, Nat.reduceEqDiff, k4]; try rfl), (by simp only [zfk, ↓reduceIte, Nat.reduceEqDiff, k8]; try rfl), hci, .inr ⟨by simp, _, (by simp only [zfk, ↓reduceIte, Nat.reduceEqDiff]; try rfl), (by simp only [zfk, ↓reduceIte, Nat.reduceEqDiff]; try rfl)⟩, by dsimp only; simp only [List.length_cons, List.length_nil]; omega, by dsimp only; rw [hm2]; exact hfin⟩
      · have a1 := fun S hs => push_tok 43 t acc (by omega) S u hs
        simp only [rC] at k0 c1
        simp only [simB, keep5, Nat.reduceBEq, own5, String.reduceAppend, String.reduceBEq, Bool.or_false, Bool.or_true, Bool.or_self, ↓reduceIte, Nat.reduceEqDiff, Nat.reduceAdd, simA, simL, simN, Nat.zero_add, y_lss, y_eql, e0', e1', e4', e5, e7, h2, h3, q1, k0, c1, opA_nck, nckA_p, fa63_3, ld59_3, b1, opA_one26Y, one26_T, a1, g8, g9]
        exact ih (i + 1, r, acc ++ [u]) _ _ (by dsimp only; omega) rfl ⟨(by simp only [zfk, ↓reduceIte, Nat.reduceEqDiff, e0']; try rfl), (by simp only [zfk, ↓reduceIte, Nat.reduceEqDiff, e1']; try rfl), (by simp only [zfk, ↓reduceIte, Nat.reduceEqDiff, e4']; try rfl), (by simp only [zfk, ↓reduceIte, Nat.reduceEqDiff, e5]; try rfl), (by simp only [zfk, ↓reduceIte, Nat.reduceEqDiff]; try rfl), by dsimp only; omega, (by simp only [zfk, ↓reduceIte, Nat.reduceEqDiff]; try rfl), (by simp only [zfk, ↓reduceIte, Nat.reduceEqDiff, k4]; try rfl), (by simp only [zfk, ↓reduceIte, Nat.reduceEqDiff, k8]; try rfl), hci, .inr ⟨by simp, _, (by simp only [zfk, ↓reduceIte, Nat.reduceEqDiff]; try rfl), (by simp only [zfk, ↓reduceIte, Nat.reduceEqDiff]; try rfl)⟩, by dsimp only; rw [List.length_append]; simp only [List.length_cons, List.length_nil]; omega, by dsimp only; rw [hm2]; exact hfin⟩
    · have b1 : (ce == 0) = false := beq_eq_false_iff_ne.mpr hce
      rw [someZ_off rd1 _ _ _ hce] at hfin
      rw [← hfin]
      have fin := fin hfin.symm
      simp only [rC] at k0
      simp only [simB, keep5, Nat.reduceBEq, own5, String.reduceAppend, String.reduceBEq, Bool.or_false, Bool.or_true, Bool.or_self, ↓reduceIte, Nat.reduceEqDiff, Nat.reduceAdd, simA, simL, simN, Nat.zero_add, y_lss, y_eql, e0', e1', e4', e5, e7, q1, k0, opA_nck, nckA_p, fa63_3, ld59_3, b1]
      exact fin _ (fun _ _ => rfl) _ _ (by simp only [zfk, ↓reduceIte, Nat.reduceEqDiff, e0']; try rfl) (by simp only [zfk, ↓reduceIte, Nat.reduceEqDiff, e1']; try rfl) (by simp only [zfk, ↓reduceIte, Nat.reduceEqDiff, e4']; try rfl) (ap.at' (by simp only [zfk, ↓reduceIte, Nat.reduceEqDiff]; try rfl)) k0 k4 k8
  · have hie : i = c := by omega
    subst hie
    rw [Nat.sub_self] at hfin
    simp only [someZ] at hfin
    rw [← hfin]
    have fin := fin hfin.symm
    have q1 : ¬ (i : Int) < (i : Int) := by omega
    simp only [simB, keep5, Nat.reduceBEq, own5, String.reduceAppend, String.reduceBEq, Bool.or_false, Bool.or_true, Bool.or_self, ↓reduceIte, Nat.reduceEqDiff, Nat.reduceAdd, simA, simL, simN, Nat.zero_add, y_lss, e0', e1', e4', e5, e7, q1]
    exact fin _ (fun _ _ => rfl) _ _ (by simp only [zfk, ↓reduceIte, Nat.reduceEqDiff, e0']; try rfl) (by simp only [zfk, ↓reduceIte, Nat.reduceEqDiff, e1']; try rfl) (by simp only [zfk, ↓reduceIte, Nat.reduceEqDiff, e4']; try rfl) (ap.at' (by simp only [zfk, ↓reduceIte, Nat.reduceEqDiff]; try rfl)) k0 k4 k8
end Go.Ab

/- The reference's Term: the checks ahead (CFG5). Conditions: places in range. -/
namespace Go.Ab
open Go.Proofs
set_option maxRecDepth 100000
set_option linter.unusedSimpArgs false

def c27 : Code := (.seq (.goto (1152921504606846976 + (8 * 1048576 + 149))) (.seq (.goto (1152921504606846976 + (8 * 1048576 + 151))) (.seq (.goto (2305843009213693952 + (8 * 1048576 + 152))) (.seq (.goto (1152921504606846976 + (147 * 1048576 + 149))) (.seq (.goto (1152921504606846976 + (147 * 1048576 + 151))) (.seq (.goto (2305843009213693952 + (147 * 1048576 + 152))) (.seq (.goto (1152921504606846976 + (8 * 1048576 + 149))) (.seq (.goto (1152921504606846976 + (8 * 1048576 + 151))) (.seq (.goto (2305843009213693952 + (8 * 1048576 + 152))) (.seq (.goto (1152921504606846976 + (8 * 1048576 + 148))) (.seq (.goto (1152921504606846976 + (8 * 1048576 + 153))) (.seq (.goto (2305843009213693952 + (8 * 1048576 + 154))) .skip))))))))))))
def ins27 : Code → Code
  | .region i ops d => if i = 27 then .seq (.region i ops d) c27 else .region i ops d
  | .seq a b => .seq (ins27 a) (ins27 b)
  | .cond t a b => .cond t (ins27 a) (ins27 b)
  | .block i a => .block i (ins27 a)
  | .loop a => .loop (ins27 a)
  | .scope a => .scope (ins27 a)
  | c => c
noncomputable def tmC : Code := ins27 ((Try.f32.body).getD .skip)
theorem tm_prune : prune cfg5.keep ((Try.f32.body).getD .skip) = tmC := by kernel_rfl
noncomputable def tm1 : Code := seqR tmC
noncomputable def tm2 : Code := seqR tm1
noncomputable def tm3 : Code := seqR tm2
noncomputable def tm4 : Code := seqR tm3
noncomputable def tm5 : Code := seqR tm4
def cells0 : List AV := [.int .i64 0, .bool false, .sl [] 0 .nil, .str [], .int .i64 0, .sl [] 0 .nil]
section
variable (n d : Nat) (bs : List UInt8) (g : Grip) (deep : Int) (i fr : Nat) (tm : Int) (tag : Nat) (as1 : List Arg) (os : List (List AV)) (ho : ∀ s ys, s 0 = ⟨0, .buf ys⟩ → outsA s 0 as1 = some (ys :: os)) (K : Kont)
  (hK2 : ∀ env s, K .ret env s = finishP Try.prog false as1 #[.cell 4 28] env s) (env : Env) (st : St) (e0 : env 0 = .ptr 0 0 0) (e1 : env 1 = .int .i64 deep) (e4 : env 4 = .ptr 4 1 0) (e5 : env 5 = .int .i64 (fr : Int)) (e6 : env 6 = .int .i64 (tag : Int))
  (j0 : st 0 = ⟨0, .buf (rC bs g ⟨i, tm, 0⟩)⟩) (j4 : st 4 = ⟨1, .buf cells0⟩) (j8 : (st 8).t = 0)
include ho hK2 e0 e1 e4 e5 e6 j0 j4 j8
set_option maxHeartbeats 4000000 in
theorem tm3_known (hk : knownZ tag) (out : Out) (hrest : ¬ (tm ≥ 2000 ∨ deep > 60) → ∀ env st, env 0 = .ptr 0 0 0 → env 1 = .int .i64 deep → env 4 = .ptr 4 1 0 → env 5 = .int .i64 (fr : Int) → env 6 = .int .i64 (tag : Int) → st 0 = ⟨0, .buf (rC bs g ⟨i, tm, 0⟩)⟩ → st 4 = ⟨1, .buf cells0⟩ → (st 8).t = 0 → den Try.prog cfg5 (evalFn Try.prog cfg5 n (d+1)) n tm5 K env st = some out) :
    den Try.prog cfg5 (evalFn Try.prog cfg5 n (d+1)) n tm3 K env st = if tm ≥ 2000 ∨ deep > 60 then some (.tree (encT T0), rC bs g ⟨i, tm, 4⟩ :: os) else some out := by
  have cf := fun D' (st : St) (hp : st 0 = ⟨0, .buf (rC bs g ⟨i, tm, 0⟩)⟩) => callA_ptr (call := evalFn Try.prog cfg5 n (d+1)) [.int .i64 4] rfl (rwrong_eq n d bs g ⟨i, tm, 0⟩ 4) D' hp
  have hfl : (RS.fail ⟨i, tm, 0⟩ 4) = ⟨i, tm, 4⟩ := rfl
  rw [hfl] at cf
  have st0T := fun s p k' => st_Tt s p k' T0
  have s60T := fun t k' p st => stT_6 t k' p st (.int .i64 0) (.bool false) (.sl [] 0 .nil) (.str []) (.int .i64 0) (.sl [] 0 .nil) T0
  have hz : ∀ m : Nat, ((tag : Int) != (m : Int)) = (tag != m) := fun m => by
    rw [Bool.eq_iff_iff, bne_iff_ne, bne_iff_ne]; omega
  have z1 := hz 97; have z2 := hz 98; have z3 := hz 104; have z4 := hz 106; have z5 := hz 108; have z6 := hz 109; have z7 := hz 110; have z8 := hz 119
  simp only [Int.cast_ofNat_Int] at z1 z2 z3 z4 z5 z6 z7 z8
  have hch : (tag != 97) = false ∨ ((tag != 97) = true ∧ (tag != 98) = false) ∨ ((tag != 97) = true ∧ (tag != 98) = true ∧ (tag != 104) = false) ∨ ((tag != 97) = true ∧ (tag != 98) = true ∧ (tag != 104) = true ∧ (tag != 106) = false) ∨ ((tag != 97) = true ∧ (tag != 98) = true ∧ (tag != 104) = true ∧ (tag != 106) = true ∧ (tag != 108) = false) ∨ ((tag != 97) = true ∧ (tag != 98) = true ∧ (tag != 104) = true ∧ (tag != 106) = true ∧ (tag != 108) = true ∧ (tag != 109) = false) ∨ ((tag != 97) = true ∧ (tag != 98) = true ∧ (tag != 104) = true ∧ (tag != 106) = true ∧ (tag != 108) = true ∧ (tag != 109) = true ∧ (tag != 110) = false) ∨ ((tag != 97) = true ∧ (tag != 98) = true ∧ (tag != 104) = true ∧ (tag != 106) = true ∧ (tag != 108) = true ∧ (tag != 109) = true ∧ (tag != 110) = true ∧ (tag != 119) = false) := by
    rcases hk with rfl | rfl | rfl | rfl | rfl | rfl | rfl | rfl <;> decide
  have b0 : ((0 : Int) == 0) = true := rfl
  have b1 : ((0 : Int) != 0) = false := rfl
  have b2 : ((4 : Int) != 0) = true := rfl
  clear hk hz
  simp only [cells0] at j4 hrest
  simp only [rC] at j0 cf hrest ⊢
  by_cases h2 : tm ≥ 2000
  · rw [if_pos (.inl h2)]
    rcases hch with q1 | ⟨q1, q2⟩ | ⟨q1, q2, q3⟩ | ⟨q1, q2, q3, q4⟩ | ⟨q1, q2, q3, q4, q5⟩ | ⟨q1, q2, q3, q4, q5, q6⟩ | ⟨q1, q2, q3, q4, q5, q6, q7⟩ | ⟨q1, q2, q3, q4, q5, q6, q7, q8⟩
    all_goals
      simp only [tm3, tm2, tm1, tmC, seqR, ins27, Nat.reduceEqDiff, ↓reduceIte, Try.f32, Option.getD_some, simB, keep5, Nat.reduceBEq, own5, String.reduceAppend, String.reduceBEq, Bool.or_false, Bool.or_true, Bool.or_self, ↓reduceIte, Nat.reduceEqDiff, Nat.reduceAdd, simA, simL, simN, Nat.zero_add, e0, e1, e4, e5, e6, j0, j4, y_eql, y_neq, y_geq, y_gtr, opA_nck, nckA_p, fa63_2, fa63_3, ld59_2, ld59_3, b0, b1, b2, z1, z2, z3, z4, z5, z6, z7, z8, h2, *, cf, bdY_00, st0T, s60T, hK2]
      exact finish_cY _ _ _ 4 4 1 T0 _ _ (by simp only [zfk, ↓reduceIte, Nat.reduceEqDiff, e4]; try rfl) (by simp only [zfk, ↓reduceIte, Nat.reduceEqDiff]; try rfl) (ho _ _ (by simp only [zfk, ↓reduceIte, Nat.reduceEqDiff]; try rfl))
  · by_cases h6 : deep > 60
    · rw [if_pos (.inr h6)]
      rcases hch with q1 | ⟨q1, q2⟩ | ⟨q1, q2, q3⟩ | ⟨q1, q2, q3, q4⟩ | ⟨q1, q2, q3, q4, q5⟩ | ⟨q1, q2, q3, q4, q5, q6⟩ | ⟨q1, q2, q3, q4, q5, q6, q7⟩ | ⟨q1, q2, q3, q4, q5, q6, q7, q8⟩
      all_goals
        simp only [tm3, tm2, tm1, tmC, seqR, ins27, Nat.reduceEqDiff, ↓reduceIte, Try.f32, Option.getD_some, simB, keep5, Nat.reduceBEq, own5, String.reduceAppend, String.reduceBEq, Bool.or_false, Bool.or_true, Bool.or_self, ↓reduceIte, Nat.reduceEqDiff, Nat.reduceAdd, simA, simL, simN, Nat.zero_add, e0, e1, e4, e5, e6, j0, j4, y_eql, y_neq, y_geq, y_gtr, opA_nck, nckA_p, fa63_2, fa63_3, ld59_2, ld59_3, b0, b1, b2, z1, z2, z3, z4, z5, z6, z7, z8, h2, h6, *, cf, bdY_00, st0T, s60T, hK2]
        exact finish_cY _ _ _ 4 4 1 T0 _ _ (by simp only [zfk, ↓reduceIte, Nat.reduceEqDiff, e4]; try rfl) (by simp only [zfk, ↓reduceIte, Nat.reduceEqDiff]; try rfl) (ho _ _ (by simp only [zfk, ↓reduceIte, Nat.reduceEqDiff]; try rfl))
    · rw [if_neg (fun h => h.elim h2 h6)]
      have hrest := hrest (fun h => h.elim h2 h6)
      show den Try.prog cfg5 _ n (.seq (seqL tm3) (.seq (seqL tm4) tm5)) _ _ _ = _
      simp only [tm4, tm3, tm2, tm1, tmC, seqL, seqR, ins27, Nat.reduceEqDiff, ↓reduceIte, Try.f32, Option.getD_some]
      rcases hch with q1 | ⟨q1, q2⟩ | ⟨q1, q2, q3⟩ | ⟨q1, q2, q3, q4⟩ | ⟨q1, q2, q3, q4, q5⟩ | ⟨q1, q2, q3, q4, q5, q6⟩ | ⟨q1, q2, q3, q4, q5, q6, q7⟩ | ⟨q1, q2, q3, q4, q5, q6, q7, q8⟩
      all_goals
        simp only [simB, keep5, Nat.reduceBEq, own5, String.reduceAppend, String.reduceBEq, Bool.or_false, Bool.or_true, Bool.or_self, ↓reduceIte, Nat.reduceEqDiff, Nat.reduceAdd, simA, simL, simN, Nat.zero_add, e0, e1, e4, e5, e6, j0, j4, y_eql, y_neq, y_geq, y_gtr, opA_nck, nckA_p, fa63_2, fa63_3, ld59_2, ld59_3, b0, b1, b2, z1, z2, z3, z4, z5, z6, z7, z8, h2, h6, *, cf]
omit deep fr e1 e5 j8 in
set_option maxHeartbeats 4000000 in
theorem tm3_other (hk : ¬ knownZ tag) :
    den Try.prog cfg5 (evalFn Try.prog cfg5 n (d+1)) n tm3 K env st = some (.tree (encT T0), rC bs g ⟨i, tm, 4⟩ :: os) := by
  have cf := fun D' (st : St) (hp : st 0 = ⟨0, .buf (rC bs g ⟨i, tm, 0⟩)⟩) => callA_ptr (call := evalFn Try.prog cfg5 n (d+1)) [.int .i64 4] rfl (rwrong_eq n d bs g ⟨i, tm, 0⟩ 4) D' hp
  have hfl : (RS.fail ⟨i, tm, 0⟩ 4) = ⟨i, tm, 4⟩ := rfl
  rw [hfl] at cf
  have st0T := fun s p k' => st_Tt s p k' T0
  have s60T := fun t k' p st => stT_6 t k' p st (.int .i64 0) (.bool false) (.sl [] 0 .nil) (.str []) (.int .i64 0) (.sl [] 0 .nil) T0
  have hz : ∀ m : Nat, tag ≠ m → ((tag : Int) != (m : Int)) = true := fun m h => by
    rw [bne_iff_ne]; omega
  unfold knownZ at hk
  have z1 := hz 97 (by omega); have z2 := hz 98 (by omega); have z3 := hz 104 (by omega); have z4 := hz 106 (by omega); have z5 := hz 108 (by omega); have z6 := hz 109 (by omega); have z7 := hz 110 (by omega); have z8 := hz 119 (by omega)
  simp only [Int.cast_ofNat_Int] at z1 z2 z3 z4 z5 z6 z7 z8
  have b0 : ((0 : Int) == 0) = true := rfl
  have b1 : ((0 : Int) != 0) = false := rfl
  have b2 : ((4 : Int) != 0) = true := rfl
  clear hk hz
  simp only [cells0] at j4
  simp only [rC] at j0 cf ⊢
  simp only [tm3, tm2, tm1, tmC, seqR, ins27, Nat.reduceEqDiff, ↓reduceIte, Try.f32, Option.getD_some, simB, keep5, Nat.reduceBEq, own5, String.reduceAppend, String.reduceBEq, Bool.or_false, Bool.or_true, Bool.or_self, ↓reduceIte, Nat.reduceEqDiff, Nat.reduceAdd, simA, simL, simN, Nat.zero_add, e0, e4, e6, j0, j4, y_eql, y_neq, y_geq, y_gtr, opA_nck, nckA_p, fa63_2, fa63_3, ld59_2, ld59_3, b0, b1, b2, z1, z2, z3, z4, z5, z6, z7, z8, cf, bdY_00, st0T, s60T, hK2]
  exact finish_cY _ _ _ 4 4 1 T0 _ _ (by simp only [zfk, ↓reduceIte, Nat.reduceEqDiff, e4]; try rfl) (by simp only [zfk, ↓reduceIte, Nat.reduceEqDiff]; try rfl) (ho _ _ (by simp only [zfk, ↓reduceIte, Nat.reduceEqDiff]; try rfl))
end
end Go.Ab

/- The reference's Term: terms of no others (CFG5). Conditions: places in range. -/
namespace Go.Ab
open Go.Proofs
set_option maxRecDepth 100000
set_option linter.unusedSimpArgs false

theorem conv_ii32 (s : St) (x : Nat) (h : x < 4294967296) : convA Try.prog 3 21 s (.int .i64 (x : Int)) = some (.int .i32 (i32 (x : Int))) := by
  have w : IntKind.i32.wrap (x : Int) = i32 (x : Int) := by
    unfold i32
    simp [IntKind.wrap, IntKind.bits, IntKind.signed]
    (repeat' split) <;> omega
  simp only [convA, tk3, tkI32, w]
theorem numZT_leaf (v : Int) : Leaf (numZT v) := ⟨rfl, by show (1 : Int) ≠ 4; decide, limbs_digs _⟩
theorem bd_numZT (v : Int) : buildA Try.prog 28 [(0, .int .i64 1), (1, .agg [.bool (decide (v < 0)), encL .l (digs v.natAbs)])] = some (.agg (cellsT (numZT v))) := bdT_1 1 _ .l _
theorem numR_lt (bs : List UInt8) (s : RS) (k : Nat) (hk : k ≤ 4) : ∃ x : Nat, numR bs s k = (x : Int) ∧ x < 4294967296 := by
  have hl := takeR_len (bs := bs) (s := s) (k := k)
  unfold numR
  generalize (takeR bs s k).1.getD [] = x at hl
  have hv0 : beV x 0 = ((beN x 0 : Nat) : Int) := beV_N x 0
  refine ⟨beN x 0, hv0, ?_⟩
  have h1 : beN x 0 < 256 ^ (0 + x.length) := beN_lt x 0 0 (by decide)
  have h2 : 256 ^ (0 + x.length) ≤ 256 ^ 4 := Nat.pow_le_pow_right (by decide) (by omega)
  have h3 : (256 : Nat) ^ 4 = 4294967296 := by decide
  omega
theorem i32_mid (v : Nat) (h : v < 4294967296) : -2147483648 ≤ i32 (v : Int) ∧ i32 (v : Int) ≤ 2147483647 := by
  unfold i32
  split <;> omega
theorem plain_e119 (bs : List UInt8) (s : RS) (fr : Nat) {m : Int × RS} {o : Option (List UInt8) × RS} (hm : manyR bs s 1 1 40 = m) (ho : takeR bs m.2 m.1.toNat = o) :
    plainR bs s 119 fr = (.mk 2 false .n [] (o.1.getD []) 0 .n [], endR bs o.2 (.mk 2 false .n [] (o.1.getD []) 0 .n []) fr) := by
  subst hm; subst ho; rfl
theorem plain_e109 (bs : List UInt8) (s : RS) (fr : Nat) {m : Int × RS} {o : Option (List UInt8) × RS} (hm : manyR bs s 4 0 400 = m) (ho : takeR bs m.2 m.1.toNat = o) :
    plainR bs s 109 fr = (.mk 6 false .n [] (o.1.getD []) 0 .n [], endR bs o.2 (.mk 6 false .n [] (o.1.getD []) 0 .n []) fr) := by
  subst hm; subst ho; rfl
theorem bdY_nil : buildA Try.prog 28 [(0, .int .i64 3)] = some (.agg (cellsT nilT')) := by
  simp only [buildA, zeroT, tkT, plT, Option.bind_some, fillA]; rfl
section
variable (n E : Nat) (hn : 2200 ≤ n) (hE : 6015 ≤ E) (bs : List UInt8) (g : Grip) (deep : Int) (i fr : Nat) (tm : Int) (hs : InvR bs ⟨i, tm, 0⟩) (htm : tm < 2000) (hfr : fr < i) (as1 : List Arg) (os : List (List AV)) (ho : ∀ s ys, s 0 = ⟨0, .buf ys⟩ → outsA s 0 as1 = some (ys :: os)) (K : Kont)
  (hK2 : ∀ env s, K .ret env s = finishP Try.prog false as1 #[.cell 4 28] env s) (env : Env) (st : St) (e0 : env 0 = .ptr 0 0 0) (e1 : env 1 = .int .i64 deep) (e4 : env 4 = .ptr 4 1 0) (e5 : env 5 = .int .i64 (fr : Int))
  (j0 : st 0 = ⟨0, .buf (rC bs g ⟨i, tm, 0⟩)⟩) (j4 : st 4 = ⟨1, .buf cells0⟩) (j8 : (st 8).t = 0)
include hn hE hs htm hfr ho hK2 e0 e1 e4 e5 j0 j4 j8
omit deep e1 j8 in
set_option maxHeartbeats 4000000 in
theorem tm5_97 (e6 : env 6 = .int .i64 97) :
    den Try.prog cfg5 (evalFn Try.prog cfg5 n (E+4)) n tm5 K env st = some (.tree (encT (numZT (numR bs ⟨i, tm + 1, 0⟩ 1))), rC bs g (plainR bs ⟨i, tm + 1, 0⟩ 97 fr).2 :: os) := by
  have hs1 : InvR bs ⟨i, tm + 1, 0⟩ := ⟨hs.i, hs.len, by have := hs.lo; dsimp only at this ⊢; omega, by dsimp only; omega, fun _ => by have := hs.ok rfl; dsimp only at this ⊢; omega⟩
  have htm0 := (hs.ok rfl).1
  dsimp only at htm0
  have f1 := i_add Try.prog 3 tm 1 (by omega) (by omega)
  have ct := fun D (st : St) (hp : st 0 = ⟨0, .buf (rC bs g ⟨i, tm + 1, 0⟩)⟩) => callA_ptr (call := evalFn Try.prog cfg5 n (E+4)) [.int .i64 1] rfl (rtake_eq n (E+2) (by omega) bs g ⟨i, tm + 1, 0⟩ 1 hs1.okR (by decide)) D hp
  obtain ⟨v, hv, hv2⟩ := numR_lt bs ⟨i, tm + 1, 0⟩ 1 (by decide)
  have cO := fun D st => callA_trees (cfg := cfg5) (d := D) (s := st) (f := 63) (vs := [.int .i64 (((v : Nat) : Int))]) rfl (ev5 (n := n) (d := E+3) rfl (rof64_eq 9223372036854775808 6187 (by decide) (((v : Nat) : Int)) (by omega) (by omega)))
  have hst : (plainR bs ⟨i, tm + 1, 0⟩ 97 fr).2 = endR bs (takeR bs ⟨i, tm + 1, 0⟩ 1).2 (numZT (((v : Nat) : Int))) fr := by rw [plain_e97, hv, endR_numZT]
  have hok : okR bs (takeR bs ⟨i, tm + 1, 0⟩ 1).2 := takeR_ok hs1.okR
  have hup := (takeR_mono (bs := bs) (s := ⟨i, tm + 1, 0⟩) (k := 1)).1
  dsimp only at hup
  rw [hst]
  rw [hv] at ct ⊢
  obtain ⟨r, hr⟩ : ∃ r, (takeR bs ⟨i, tm + 1, 0⟩ 1).2 = r := ⟨_, rfl⟩
  rw [hr] at ct hok hup ⊢
  have cs := fun D (st : St) (hp : st 0 = ⟨0, .buf (rC bs g r)⟩) => callA_ptr (call := evalFn Try.prog cfg5 n (E+4)) [encT (numZT (((v : Nat) : Int))), .int .i64 (fr : Int)] rfl (rsameR_eq n (E+2) hn (by omega) bs g r hok fr (.inl (by omega)) (numZT (((v : Nat) : Int))) (numZT_leaf _) (by simp [numZT, strT])) D hp
  have bd := bd_numZT (((v : Nat) : Int))
  have stw := fun s p k' => st_Tt s p k' (numZT (((v : Nat) : Int)))
  have st6w := fun t k' p st => stT_6 t k' p st (.int .i64 0) (.bool false) (.sl [] 0 .nil) (.str []) (.int .i64 0) (.sl [] 0 .nil) (numZT (((v : Nat) : Int)))
  simp only [canA, encA] at cO
  simp only [encT] at cs
  simp only [cells0] at j4
  have x0 : ((97 : Int) == 108) = false := by decide
  have x97 : ((97 : Int) == 97) = true := by decide
  simp only [rC] at j0 ct cs
  simp only [tm5, tm4, tm3, tm2, tm1, tmC, seqR, ins27, Nat.reduceEqDiff, ↓reduceIte, Try.f32, Option.getD_some, simB, keep5, Nat.reduceBEq, own5, String.reduceAppend, String.reduceBEq, Bool.or_false, Bool.or_true, Bool.or_self, ↓reduceIte, Nat.reduceEqDiff, Nat.reduceAdd, simA, simL, simN, Nat.zero_add, e0, e4, e5, e6, j0, j4, y_eql, opA_nck, nckA_p, fa63_2, ld59_2, f1, st_iY, stY_2, x0, x97, ct, cO, bd, cs, stw, st6w, hK2]
  exact finish_cY _ _ _ 4 4 1 (numZT (((v : Nat) : Int))) _ _ (by simp only [zfk, ↓reduceIte, Nat.reduceEqDiff, e4]; try rfl) (by simp only [zfk, ↓reduceIte, Nat.reduceEqDiff]; try rfl) (ho _ _ (by simp only [zfk, ↓reduceIte, Nat.reduceEqDiff]; try rfl))
omit deep e1 j8 in
set_option maxHeartbeats 4000000 in
theorem tm5_98 (e6 : env 6 = .int .i64 98) :
    den Try.prog cfg5 (evalFn Try.prog cfg5 n (E+4)) n tm5 K env st = some (.tree (encT (numZT (i32 (numR bs ⟨i, tm + 1, 0⟩ 4)))), rC bs g (plainR bs ⟨i, tm + 1, 0⟩ 98 fr).2 :: os) := by
  have hs1 : InvR bs ⟨i, tm + 1, 0⟩ := ⟨hs.i, hs.len, by have := hs.lo; dsimp only at this ⊢; omega, by dsimp only; omega, fun _ => by have := hs.ok rfl; dsimp only at this ⊢; omega⟩
  have htm0 := (hs.ok rfl).1
  dsimp only at htm0
  have f1 := i_add Try.prog 3 tm 1 (by omega) (by omega)
  have ct := fun D (st : St) (hp : st 0 = ⟨0, .buf (rC bs g ⟨i, tm + 1, 0⟩)⟩) => callA_ptr (call := evalFn Try.prog cfg5 n (E+4)) [.int .i64 4] rfl (rtake_eq n (E+2) (by omega) bs g ⟨i, tm + 1, 0⟩ 4 hs1.okR (by decide)) D hp
  obtain ⟨v, hv, hv2⟩ := numR_lt bs ⟨i, tm + 1, 0⟩ 4 (by decide)
  have hr32 := i32_mid v hv2
  have cv1 := fun s => conv_ii32 s v hv2
  have cv2 := fun s => conv_i32i s (i32 (v : Int)) hr32
  have cO := fun D st => callA_trees (cfg := cfg5) (d := D) (s := st) (f := 63) (vs := [.int .i64 (i32 ((v : Nat) : Int))]) rfl (ev5 (n := n) (d := E+3) rfl (rof64_eq 9223372036854775808 6187 (by decide) (i32 ((v : Nat) : Int)) (by omega) (by omega)))
  have hst : (plainR bs ⟨i, tm + 1, 0⟩ 98 fr).2 = endR bs (takeR bs ⟨i, tm + 1, 0⟩ 4).2 (numZT (i32 ((v : Nat) : Int))) fr := by rw [plain_e98, hv, endR_numZT]
  have hok : okR bs (takeR bs ⟨i, tm + 1, 0⟩ 4).2 := takeR_ok hs1.okR
  have hup := (takeR_mono (bs := bs) (s := ⟨i, tm + 1, 0⟩) (k := 4)).1
  dsimp only at hup
  rw [hst]
  rw [hv] at ct ⊢
  obtain ⟨r, hr⟩ : ∃ r, (takeR bs ⟨i, tm + 1, 0⟩ 4).2 = r := ⟨_, rfl⟩
  rw [hr] at ct hok hup ⊢
  have cs := fun D (st : St) (hp : st 0 = ⟨0, .buf (rC bs g r)⟩) => callA_ptr (call := evalFn Try.prog cfg5 n (E+4)) [encT (numZT (i32 ((v : Nat) : Int))), .int .i64 (fr : Int)] rfl (rsameR_eq n (E+2) hn (by omega) bs g r hok fr (.inl (by omega)) (numZT (i32 ((v : Nat) : Int))) (numZT_leaf _) (by simp [numZT, strT])) D hp
  have bd := bd_numZT (i32 ((v : Nat) : Int))
  have stw := fun s p k' => st_Tt s p k' (numZT (i32 ((v : Nat) : Int)))
  have st6w := fun t k' p st => stT_6 t k' p st (.int .i64 0) (.bool false) (.sl [] 0 .nil) (.str []) (.int .i64 0) (.sl [] 0 .nil) (numZT (i32 ((v : Nat) : Int)))
  simp only [canA, encA] at cO
  simp only [encT] at cs
  simp only [cells0] at j4
  have x0 : ((98 : Int) == 108) = false := by decide
  have x97 : ((98 : Int) == 97) = false := by decide
  have x98 : ((98 : Int) == 98) = true := by decide
  simp only [rC] at j0 ct cs
  simp only [tm5, tm4, tm3, tm2, tm1, tmC, seqR, ins27, Nat.reduceEqDiff, ↓reduceIte, Try.f32, Option.getD_some, simB, keep5, Nat.reduceBEq, own5, String.reduceAppend, String.reduceBEq, Bool.or_false, Bool.or_true, Bool.or_self, ↓reduceIte, Nat.reduceEqDiff, Nat.reduceAdd, simA, simL, simN, Nat.zero_add, e0, e4, e5, e6, j0, j4, y_eql, opA_nck, nckA_p, fa63_2, ld59_2, f1, st_iY, stY_2, x0, x97, x98, ct, cO, bd, cs, cv1, cv2, stw, st6w, hK2]
  exact finish_cY _ _ _ 4 4 1 (numZT (i32 ((v : Nat) : Int))) _ _ (by simp only [zfk, ↓reduceIte, Nat.reduceEqDiff, e4]; try rfl) (by simp only [zfk, ↓reduceIte, Nat.reduceEqDiff]; try rfl) (ho _ _ (by simp only [zfk, ↓reduceIte, Nat.reduceEqDiff]; try rfl))
omit deep e1 j8 in
set_option maxHeartbeats 4000000 in
theorem tm5_119 (e6 : env 6 = .int .i64 119) :
    den Try.prog cfg5 (evalFn Try.prog cfg5 n (E+4)) n tm5 K env st = some (.tree (encT ((plainR bs ⟨i, tm + 1, 0⟩ 119 fr).1)), rC bs g (plainR bs ⟨i, tm + 1, 0⟩ 119 fr).2 :: os) := by
  have hs1 : InvR bs ⟨i, tm + 1, 0⟩ := ⟨hs.i, hs.len, by have := hs.lo; dsimp only at this ⊢; omega, by dsimp only; omega, fun _ => by have := hs.ok rfl; dsimp only at this ⊢; omega⟩
  have htm0 := (hs.ok rfl).1
  dsimp only at htm0
  have f1 := i_add Try.prog 3 tm 1 (by omega) (by omega)
  obtain ⟨m, hm⟩ : ∃ m, manyR bs ⟨i, tm + 1, 0⟩ 1 1 40 = m := ⟨_, rfl⟩
  have hm1 : okR bs m.2 := by rw [← hm]; exact manyR_ok hs1.okR
  obtain ⟨hm0, hm48⟩ : 0 ≤ m.1 ∧ m.1 ≤ 40 := by rw [← hm]; exact manyR_range (by decide) (by decide)
  obtain ⟨v, hv⟩ : ∃ v : Nat, m.1 = (v : Int) := ⟨m.1.toNat, by omega⟩
  have hup1 := (manyR_mono (bs := bs) (s := ⟨i, tm + 1, 0⟩) (k := 1) (a := 1) (b := 40)).1
  rw [hm] at hup1
  dsimp only at hup1
  obtain ⟨o, hoo⟩ : ∃ o, takeR bs m.2 v = o := ⟨_, rfl⟩
  have ho1 : okR bs o.2 := by rw [← hoo]; exact takeR_ok hm1
  have hup := (takeR_mono (bs := bs) (s := m.2) (k := v)).1
  have hlen := takeR_len (bs := bs) (s := m.2) (k := v)
  rw [hoo] at hup hlen
  have hpl : plainR bs ⟨i, tm + 1, 0⟩ 119 fr = (T.mk 2 false .n [] (o.1.getD []) 0 .n [], endR bs o.2 (T.mk 2 false .n [] (o.1.getD []) 0 .n []) fr) := by
    rw [plain_e119 bs _ fr hm (o := o) (by rw [hv, Int.toNat_natCast]; exact hoo)]
  rw [hpl]
  dsimp only
  have cc := fun D (st : St) (hp : st 0 = ⟨0, .buf (rC bs g ⟨i, tm + 1, 0⟩)⟩) => callA_ptr (call := evalFn Try.prog cfg5 n (E+4)) [.int .i64 1, .int .i64 1, .int .i64 40] rfl (rcount_eq n (E+1) (by omega) bs g ⟨i, tm + 1, 0⟩ 1 1 40 hs1.okR (by decide)) D hp
  rw [hm, hv] at cc
  have ct := fun D (st : St) (hp : st 0 = ⟨0, .buf (rC bs g m.2)⟩) => callA_ptr (call := evalFn Try.prog cfg5 n (E+4)) [.int .i64 (v : Int)] rfl (rtext_eq n (E+2) bs g m.2 v hm1 (by omega)) D hp
  rw [hoo] at ct
  obtain ⟨x, hx⟩ : ∃ x, o.1.getD [] = x := ⟨_, rfl⟩
  rw [hx] at ct hlen ⊢
  have cs := fun D (st : St) (hp : st 0 = ⟨0, .buf (rC bs g o.2)⟩) => callA_ptr (call := evalFn Try.prog cfg5 n (E+4)) [encT (T.mk 2 false .n [] x 0 .n []), .int .i64 (fr : Int)] rfl (rsameR_eq n (E+2) hn (by omega) bs g o.2 ho1 fr (.inl (by omega)) (T.mk 2 false .n [] x 0 .n []) ⟨rfl, by show (2 : Int) ≠ 4; decide, fun _ h => nomatch h⟩ (by show x.length < _; omega)) D hp
  have bd := bdT_ks 2 x
  have stw := fun s p k' => st_Tt s p k' (T.mk 2 false .n [] x 0 .n [])
  have st6w := fun t k' p st => stT_6 t k' p st (.int .i64 0) (.bool false) (.sl [] 0 .nil) (.str []) (.int .i64 0) (.sl [] 0 .nil) (T.mk 2 false .n [] x 0 .n [])
  simp only [encT] at cs
  simp only [cells0] at j4
  have x0 : ((119 : Int) == 108) = false := by decide
  have x97 : ((119 : Int) == 97) = false := by decide
  have x98 : ((119 : Int) == 98) = false := by decide
  have x110 : ((119 : Int) == 110) = false := by decide
  have x119 : ((119 : Int) == 119) = true := by decide
  simp only [rC] at j0 cc ct cs
  simp only [tm5, tm4, tm3, tm2, tm1, tmC, seqR, ins27, Nat.reduceEqDiff, ↓reduceIte, Try.f32, Option.getD_some, simB, keep5, Nat.reduceBEq, own5, String.reduceAppend, String.reduceBEq, Bool.or_false, Bool.or_true, Bool.or_self, ↓reduceIte, Nat.reduceEqDiff, Nat.reduceAdd, simA, simL, simN, Nat.zero_add, e0, e4, e5, e6, j0, j4, y_eql, opA_nck, nckA_p, fa63_2, ld59_2, f1, st_iY, stY_2, x0, x97, x98, x110, x119, cc, ct, bd, cs, stw, st6w, hK2]
  exact finish_cY _ _ _ 4 4 1 (T.mk 2 false .n [] x 0 .n []) _ _ (by simp only [zfk, ↓reduceIte, Nat.reduceEqDiff, e4]; try rfl) (by simp only [zfk, ↓reduceIte, Nat.reduceEqDiff]; try rfl) (ho _ _ (by simp only [zfk, ↓reduceIte, Nat.reduceEqDiff]; try rfl))
omit deep e1 j8 in
set_option maxHeartbeats 4000000 in
theorem tm5_109 (e6 : env 6 = .int .i64 109) :
    den Try.prog cfg5 (evalFn Try.prog cfg5 n (E+4)) n tm5 K env st = some (.tree (encT ((plainR bs ⟨i, tm + 1, 0⟩ 109 fr).1)), rC bs g (plainR bs ⟨i, tm + 1, 0⟩ 109 fr).2 :: os) := by
  have hs1 : InvR bs ⟨i, tm + 1, 0⟩ := ⟨hs.i, hs.len, by have := hs.lo; dsimp only at this ⊢; omega, by dsimp only; omega, fun _ => by have := hs.ok rfl; dsimp only at this ⊢; omega⟩
  have htm0 := (hs.ok rfl).1
  dsimp only at htm0
  have f1 := i_add Try.prog 3 tm 1 (by omega) (by omega)
  obtain ⟨m, hm⟩ : ∃ m, manyR bs ⟨i, tm + 1, 0⟩ 4 0 400 = m := ⟨_, rfl⟩
  have hm1 : okR bs m.2 := by rw [← hm]; exact manyR_ok hs1.okR
  obtain ⟨hm0, hm48⟩ : 0 ≤ m.1 ∧ m.1 ≤ 400 := by rw [← hm]; exact manyR_range (by decide) (by decide)
  obtain ⟨v, hv⟩ : ∃ v : Nat, m.1 = (v : Int) := ⟨m.1.toNat, by omega⟩
  have hup1 := (manyR_mono (bs := bs) (s := ⟨i, tm + 1, 0⟩) (k := 4) (a := 0) (b := 400)).1
  rw [hm] at hup1
  dsimp only at hup1
  obtain ⟨o, hoo⟩ : ∃ o, takeR bs m.2 v = o := ⟨_, rfl⟩
  have ho1 : okR bs o.2 := by rw [← hoo]; exact takeR_ok hm1
  have hup := (takeR_mono (bs := bs) (s := m.2) (k := v)).1
  have hlen := takeR_len (bs := bs) (s := m.2) (k := v)
  rw [hoo] at hup hlen
  have hpl : plainR bs ⟨i, tm + 1, 0⟩ 109 fr = (T.mk 6 false .n [] (o.1.getD []) 0 .n [], endR bs o.2 (T.mk 6 false .n [] (o.1.getD []) 0 .n []) fr) := by
    rw [plain_e109 bs _ fr hm (o := o) (by rw [hv, Int.toNat_natCast]; exact hoo)]
  rw [hpl]
  dsimp only
  have cc := fun D (st : St) (hp : st 0 = ⟨0, .buf (rC bs g ⟨i, tm + 1, 0⟩)⟩) => callA_ptr (call := evalFn Try.prog cfg5 n (E+4)) [.int .i64 4, .int .i64 0, .int .i64 400] rfl (rcount_eq n (E+1) (by omega) bs g ⟨i, tm + 1, 0⟩ 4 0 400 hs1.okR (by decide)) D hp
  rw [hm, hv] at cc
  have ct := fun D (st : St) (hp : st 0 = ⟨0, .buf (rC bs g m.2)⟩) => callA_ptr (call := evalFn Try.prog cfg5 n (E+4)) [.int .i64 (v : Int)] rfl (rtext_eq n (E+2) bs g m.2 v hm1 (by omega)) D hp
  rw [hoo] at ct
  obtain ⟨x, hx⟩ : ∃ x, o.1.getD [] = x := ⟨_, rfl⟩
  rw [hx] at ct hlen ⊢
  have cs := fun D (st : St) (hp : st 0 = ⟨0, .buf (rC bs g o.2)⟩) => callA_ptr (call := evalFn Try.prog cfg5 n (E+4)) [encT (T.mk 6 false .n [] x 0 .n []), .int .i64 (fr : Int)] rfl (rsameR_eq n (E+2) hn (by omega) bs g o.2 ho1 fr (.inl (by omega)) (T.mk 6 false .n [] x 0 .n []) ⟨rfl, by show (6 : Int) ≠ 4; decide, fun _ h => nomatch h⟩ (by show x.length < _; omega)) D hp
  have bd := bdT_ks 6 x
  have stw := fun s p k' => st_Tt s p k' (T.mk 6 false .n [] x 0 .n [])
  have st6w := fun t k' p st => stT_6 t k' p st (.int .i64 0) (.bool false) (.sl [] 0 .nil) (.str []) (.int .i64 0) (.sl [] 0 .nil) (T.mk 6 false .n [] x 0 .n [])
  simp only [encT] at cs
  simp only [cells0] at j4
  have x0 : ((109 : Int) == 108) = false := by decide
  have x97 : ((109 : Int) == 97) = false := by decide
  have x98 : ((109 : Int) == 98) = false := by decide
  have x110 : ((109 : Int) == 110) = false := by decide
  have x119 : ((109 : Int) == 119) = false := by decide
  have x109 : ((109 : Int) == 109) = true := by decide
  simp only [rC] at j0 cc ct cs
  simp only [tm5, tm4, tm3, tm2, tm1, tmC, seqR, ins27, Nat.reduceEqDiff, ↓reduceIte, Try.f32, Option.getD_some, simB, keep5, Nat.reduceBEq, own5, String.reduceAppend, String.reduceBEq, Bool.or_false, Bool.or_true, Bool.or_self, ↓reduceIte, Nat.reduceEqDiff, Nat.reduceAdd, simA, simL, simN, Nat.zero_add, e0, e4, e5, e6, j0, j4, y_eql, opA_nck, nckA_p, fa63_2, ld59_2, f1, st_iY, stY_2, x0, x97, x98, x110, x119, x109, cc, ct, bd, cs, stw, st6w, hK2]
  exact finish_cY _ _ _ 4 4 1 (T.mk 6 false .n [] x 0 .n []) _ _ (by simp only [zfk, ↓reduceIte, Nat.reduceEqDiff, e4]; try rfl) (by simp only [zfk, ↓reduceIte, Nat.reduceEqDiff]; try rfl) (ho _ _ (by simp only [zfk, ↓reduceIte, Nat.reduceEqDiff]; try rfl))
omit deep e1 j8 in
set_option maxHeartbeats 4000000 in
theorem tm5_110 (e6 : env 6 = .int .i64 110) :
    den Try.prog cfg5 (evalFn Try.prog cfg5 n (E+4)) n tm5 K env st = some (.tree (encT (bigTZ bs ⟨i, tm + 1, 0⟩)), rC bs g (plainR bs ⟨i, tm + 1, 0⟩ 110 fr).2 :: os) := by
  have hs1 : InvR bs ⟨i, tm + 1, 0⟩ := ⟨hs.i, hs.len, by have := hs.lo; dsimp only at this ⊢; omega, by dsimp only; omega, fun _ => by have := hs.ok rfl; dsimp only at this ⊢; omega⟩
  have htm0 := (hs.ok rfl).1
  dsimp only at htm0
  have f1 := i_add Try.prog 3 tm 1 (by omega) (by omega)
  have cb := fun D (st : St) (hp : st 0 = ⟨0, .buf (rC bs g ⟨i, tm + 1, 0⟩)⟩) => callA_ptr (call := evalFn Try.prog cfg5 n (E+4)) [.int .i64 (fr : Int)] rfl (rbigR_eq n E hn hE bs g ⟨i, tm + 1, 0⟩ hs1.okR fr hfr) D hp
  simp only [encT] at cb
  generalize bigTZ bs ⟨i, tm + 1, 0⟩ = P at cb ⊢
  generalize (plainR bs ⟨i, tm + 1, 0⟩ 110 fr).2 = r at cb ⊢
  have stw := fun s p k' => st_Tt s p k' (P)
  have st6w := fun t k' p st => stT_6 t k' p st (.int .i64 0) (.bool false) (.sl [] 0 .nil) (.str []) (.int .i64 0) (.sl [] 0 .nil) (P)
  simp only [cells0] at j4
  have x0 : ((110 : Int) == 108) = false := by decide
  have x97 : ((110 : Int) == 97) = false := by decide
  have x98 : ((110 : Int) == 98) = false := by decide
  have x110 : ((110 : Int) == 110) = true := by decide
  simp only [rC] at j0 cb
  simp only [tm5, tm4, tm3, tm2, tm1, tmC, seqR, ins27, Nat.reduceEqDiff, ↓reduceIte, Try.f32, Option.getD_some, simB, keep5, Nat.reduceBEq, own5, String.reduceAppend, String.reduceBEq, Bool.or_false, Bool.or_true, Bool.or_self, ↓reduceIte, Nat.reduceEqDiff, Nat.reduceAdd, simA, simL, simN, Nat.zero_add, e0, e4, e5, e6, j0, j4, y_eql, opA_nck, nckA_p, fa63_2, ld59_2, f1, st_iY, stY_2, x0, x97, x98, x110, cb, stw, st6w, hK2]
  exact finish_cY _ _ _ 4 4 1 (P) _ _ (by simp only [zfk, ↓reduceIte, Nat.reduceEqDiff, e4]; try rfl) (by simp only [zfk, ↓reduceIte, Nat.reduceEqDiff]; try rfl) (ho _ _ (by simp only [zfk, ↓reduceIte, Nat.reduceEqDiff]; try rfl))
omit hn hE deep hfr e1 e5 j8 in
set_option maxHeartbeats 4000000 in
theorem tm5_106 (e6 : env 6 = .int .i64 106) :
    den Try.prog cfg5 (evalFn Try.prog cfg5 n (E+4)) n tm5 K env st = some (.tree (encT nilT'), rC bs g ⟨i, tm + 1, 0⟩ :: os) := by
  have hs1 : InvR bs ⟨i, tm + 1, 0⟩ := ⟨hs.i, hs.len, by have := hs.lo; dsimp only at this ⊢; omega, by dsimp only; omega, fun _ => by have := hs.ok rfl; dsimp only at this ⊢; omega⟩
  have htm0 := (hs.ok rfl).1
  dsimp only at htm0
  have f1 := i_add Try.prog 3 tm 1 (by omega) (by omega)
  have bd := bdY_nil
  have stw := fun s p k' => st_Tt s p k' (nilT')
  have st6w := fun t k' p st => stT_6 t k' p st (.int .i64 0) (.bool false) (.sl [] 0 .nil) (.str []) (.int .i64 0) (.sl [] 0 .nil) (nilT')
  simp only [cells0] at j4
  have x108 : ((106 : Int) == 108) = false := by decide
  have x97 : ((106 : Int) == 97) = false := by decide
  have x98 : ((106 : Int) == 98) = false := by decide
  have x110 : ((106 : Int) == 110) = false := by decide
  have x119 : ((106 : Int) == 119) = false := by decide
  have x109 : ((106 : Int) == 109) = false := by decide
  have x104 : ((106 : Int) == 104) = false := by decide
  simp only [rC] at j0
  simp only [tm5, tm4, tm3, tm2, tm1, tmC, seqR, ins27, Nat.reduceEqDiff, ↓reduceIte, Try.f32, Option.getD_some, simB, keep5, Nat.reduceBEq, own5, String.reduceAppend, String.reduceBEq, Bool.or_false, Bool.or_true, Bool.or_self, ↓reduceIte, Nat.reduceEqDiff, Nat.reduceAdd, simA, simL, simN, Nat.zero_add, e0, e4, e6, j0, j4, y_eql, opA_nck, nckA_p, fa63_2, ld59_2, f1, st_iY, stY_2, x108, x97, x98, x110, x119, x109, x104, bd, stw, st6w, hK2]
  exact finish_cY _ _ _ 4 4 1 nilT' _ _ (by simp only [zfk, ↓reduceIte, Nat.reduceEqDiff, e4]; try rfl) (by simp only [zfk, ↓reduceIte, Nat.reduceEqDiff]; try rfl) (ho _ _ (by simp only [zfk, ↓reduceIte, Nat.reduceEqDiff]; try rfl))
omit deep htm hfr e1 e5 j8 in
set_option maxHeartbeats 4000000 in
theorem tm5_108 (deep : Int) (e1 : env 1 = .int .i64 deep) (hdp : -1000 ≤ deep ∧ deep ≤ 1000) (rd1 rd2 : RS → T × RS) (lo : Nat) (H1 : TermY n (E+3) bs g (deep + 1) rd1 lo) (H2 : TermY n (E+3) bs g deep rd2 lo) (Hi1 : ∀ s, InvL bs lo s → InvL bs lo (rd1 s).2) (hlo : lo ≤ i) (e6 : env 6 = .int .i64 108) :
    den Try.prog cfg5 (evalFn Try.prog cfg5 n (E+4)) n tm5 K env st = some (.tree (encT (listZ bs rd1 rd2 ⟨i, tm, 0⟩).1), rC bs g (listZ bs rd1 rd2 ⟨i, tm, 0⟩).2 :: os) := by
  have cl := fun D (st : St) (hp : st 0 = ⟨0, .buf (rC bs g ⟨i, tm, 0⟩)⟩) => callA_ptr (call := evalFn Try.prog cfg5 n (E+4)) [.int .i64 deep] rfl (rlistR_eq n (E+3) hn (by omega) bs g deep hdp rd1 rd2 lo H1 H2 Hi1 ⟨i, tm, 0⟩ hs rfl hlo) D hp
  simp only [encT] at cl
  generalize (listZ bs rd1 rd2 ⟨i, tm, 0⟩).1 = P at cl ⊢
  generalize (listZ bs rd1 rd2 ⟨i, tm, 0⟩).2 = r at cl ⊢
  have stw := fun s p k' => st_Tt s p k' (P)
  have st6w := fun t k' p st => stT_6 t k' p st (.int .i64 0) (.bool false) (.sl [] 0 .nil) (.str []) (.int .i64 0) (.sl [] 0 .nil) (P)
  simp only [cells0] at j4
  have x0 : ((108 : Int) == 108) = true := by decide
  simp only [rC] at j0 cl
  simp only [tm5, tm4, tm3, tm2, tm1, tmC, seqR, ins27, Nat.reduceEqDiff, ↓reduceIte, Try.f32, Option.getD_some, simB, keep5, Nat.reduceBEq, own5, String.reduceAppend, String.reduceBEq, Bool.or_false, Bool.or_true, Bool.or_self, ↓reduceIte, Nat.reduceEqDiff, Nat.reduceAdd, simA, simL, simN, Nat.zero_add, e0, e1, e4, e6, j0, j4, y_eql, opA_nck, nckA_p, fa63_2, ld59_2, st_iY, stY_2, x0, cl, stw, st6w, hK2]
  exact finish_cY _ _ _ 4 4 1 (P) _ _ (by simp only [zfk, ↓reduceIte, Nat.reduceEqDiff, e4]; try rfl) (by simp only [zfk, ↓reduceIte, Nat.reduceEqDiff]; try rfl) (ho _ _ (by simp only [zfk, ↓reduceIte, Nat.reduceEqDiff]; try rfl))
end
end Go.Ab

/- The reference's Term: a tuple (CFG5). Conditions: places in range. -/
namespace Go.Ab
open Go.Proofs
set_option maxRecDepth 100000
set_option linter.unusedSimpArgs false

def setK : T → Gk → List T → T
  | .mk k b lg l s n _ _, kg, us => .mk k b lg l s n kg us
theorem ldZ_mixK (t k : Nat) (xs : List AV) (v : AV) : ldE Try.prog 26 ⟨t, .mix xs [(5, v)]⟩ k 5 = if t = k then some v else none := by
  simp only [ldE, ldC, shTk, heldL, if_true]
theorem ldZ_mixT (t k : Nat) (u : T) (xs : List AV) (len q v : Nat) : ldE Try.prog 28 ⟨t, .mix (cellsT u) [(5, .sl xs len (.tok q v))]⟩ k 0 = if t = k then some (.agg (cellsT u)) else none := by
  have := ldT_u t k u
  simp only [ldE, ldC, shT] at this ⊢
  exact this
def TermM (e : Ent) (u : T) (us : List T) (x : AV) : Prop := (us = [] ∧ x = .sl [] 0 .nil ∧ e = ⟨1, .buf (cellsT (setK u .n []))⟩) ∨ (us ≠ [] ∧ ∃ q t, x = .sl (cellsK us) us.length (.tok q t) ∧ e = ⟨1, .mix (cellsT (setK u .l us)) [(5, x)]⟩)
theorem TermM.fa {e : Ent} {u : T} {us : List T} {x : AV} (h : TermM e u us x) (p : Nat) : faE e p 1 5 = some (.ptr p 1 5) := by
  rcases h with ⟨_, _, rfl⟩ | ⟨_, q, t, _, rfl⟩
  · rw [zeu, if_pos rfl]
  · rw [faE_mix, if_pos rfl]
theorem ldT_sK (t k : Nat) (u : T) (kg : Gk) (us : List T) : ldE Try.prog 26 ⟨t, .buf (cellsT (setK u kg us))⟩ k 5 = if t = k then some (.sl (cellsK us) us.length (gr kg)) else none := by
  obtain ⟨a, b, c, d, e, f, g, h⟩ := u
  exact ldT_4 _ _ _ _ _ _ _ _
theorem TermM.ld {e : Ent} {u : T} {us : List T} {x : AV} (h : TermM e u us x) : ldE Try.prog 26 e 1 5 = some x := by
  rcases h with ⟨_, rfl, rfl⟩ | ⟨_, q, t, _, rfl⟩
  · exact (ldT_sK 1 1 u .n []).trans (if_pos rfl)
  · exact (ldZ_mixK 1 1 _ x).trans (if_pos rfl)
theorem TermM.all {e : Ent} {u : T} {us : List T} {x : AV} (h : TermM e u us x) : ldE Try.prog 28 e 1 0 = some (.agg (cellsT (setK u (kgOf us) us))) := by
  rcases h with ⟨rfl, _, rfl⟩ | ⟨hu, q, t, rfl, rfl⟩
  · exact (ldT_u 1 1 _).trans (if_pos rfl)
  · rw [kgOf, if_neg hu]
    exact (ldZ_mixT 1 1 _ _ _ _ _).trans (if_pos rfl)
theorem set5 (u : T) (kg : Gk) (us vs : List T) : (cellsT (setK u kg us)).set 5 (.sl (cellsK vs) vs.length .loose) = cellsT (setK u .l vs) := by
  obtain ⟨a, b, c, d, e, f, g, h⟩ := u
  rfl
theorem TermM.store {s : St} {p : Nat} {u : T} {us vs : List T} {x x' : AV} {d : Nat} {s0 : St} (h : TermM (s p) u us x) (ha : Ap s0 d x' vs) (hv : vs ≠ []) :
    ∃ s', storeH Try.prog 26 s (.ptr p 1 5) x' = some s' ∧ (∀ q, q ≠ p → s' q = s q) ∧ TermM (s' p) u vs x' := by
  rcases ha with ⟨rfl, _⟩ | ⟨_, t, rfl, _⟩
  · exact absurd rfl hv
  refine ⟨upd s p ⟨1, .mix (cellsT (setK u .l vs)) [(5, .sl (cellsK vs) vs.length (.tok d t))]⟩, ?_, fun q hq => upd_ne _ _ hq, .inr ⟨hv, d, t, rfl, upd_same _ _ _⟩⟩
  rcases h with ⟨rfl, rfl, he⟩ | ⟨hu, q, t', rfl, he⟩
  · simp only [storeH, he, eszTk]
    rw [if_pos ⟨trivial, trivial, by rw [cellsT_len]; decide⟩, set5]
  · simp only [storeH, he, eszTk]
    rw [if_pos ⟨trivial, trivial, by rw [cellsT_len]; decide⟩, set5]
    rfl
theorem Ap.noH {s : St} {d p : Nat} {x : AV} {us : List T} (h : Ap s d x us) (hp : d ≠ p) : Go.Ab.noH p x = true := by
  rcases h with ⟨_, rfl⟩ | ⟨_, t, rfl, _⟩
  · rfl
  · simp only [Go.Ab.noH, bne_iff_ne, ne_eq]; exact hp
theorem gotoG_H (a b t : Nat) (ht : t = 1152921504606846976 + (a * 1048576 + b)) (ha : a < 1048575) (hb : b < 1048576) (env : Env) (x : Option Out) {p k o : Nat} (h1 : env a = .ptr p k o) (h2 : noH p (env b) = true) : gotoG t env x = x := by
  have e1 : ¬ t < 1048576 := by omega
  have e2 : ¬ t < 1099511627776 := by omega
  have e3 : ¬ t < 1152921504606846976 := by omega
  have e4 : t < 2305843009213693952 := by omega
  have e5 : (t - 1152921504606846976) / 1048576 = a := by omega
  have e6 : (t - 1152921504606846976) % 1048576 = b := by omega
  simp only [gotoG, gotoOk, if_neg e1, if_neg e2, if_neg e3, if_pos e4, e5, e6, h1, h2, if_true]
theorem gotoG_D (a d t : Nat) (ht : t = 2305843009213693952 + (a * 1048576 + d)) (ha : a < 1048575) (hb : d < 1048576) (env : Env) (x : Option Out) {p k o : Nat} (h1 : env a = .ptr p k o) (h2 : p ≠ d) : gotoG t env x = x := by
  have e1 : ¬ t < 1048576 := by omega
  have e2 : ¬ t < 1099511627776 := by omega
  have e3 : ¬ t < 1152921504606846976 := by omega
  have e4 : ¬ t < 2305843009213693952 := by omega
  have e5 : (t - 2305843009213693952) / 1048576 = a := by omega
  have e6 : (t - 2305843009213693952) % 1048576 = d := by omega
  have e7 : (p != d) = true := bne_iff_ne.mpr h2
  simp only [gotoG, gotoOk, if_neg e1, if_neg e2, if_neg e3, if_neg e4, e5, e6, h1, e7, if_true]
theorem bdT_5Z : buildA Try.prog 28 [(0, .int .i64 5)] = some (.agg (cellsT (tupT .n []))) := by
  simp only [buildA, zeroT, tkT, plT, Option.bind_some, fillA]; rfl
section
variable (n E : Nat) (hn : 2200 ≤ n) (hE : 6015 ≤ E) (bs : List UInt8) (g : Grip) (deep : Int) (i fr : Nat) (tm : Int) (hs : InvR bs ⟨i, tm, 0⟩) (htm : tm < 2000) (as1 : List Arg) (os : List (List AV)) (ho : ∀ s ys, s 0 = ⟨0, .buf ys⟩ → outsA s 0 as1 = some (ys :: os)) (K : Kont)
  (hK2 : ∀ env s, K .ret env s = finishP Try.prog false as1 #[.cell 4 28] env s) (env : Env) (st : St) (e0 : env 0 = .ptr 0 0 0) (e1 : env 1 = .int .i64 deep) (e4 : env 4 = .ptr 4 1 0)
  (j0 : st 0 = ⟨0, .buf (rC bs g ⟨i, tm, 0⟩)⟩) (j4 : st 4 = ⟨1, .buf cells0⟩) (j8 : (st 8).t = 0)
include hn hE hs htm ho hK2 e0 e1 e4 j0 j4 j8
omit hE in
set_option maxHeartbeats 4000000 in
theorem tm5_104 (hdp : -1000 ≤ deep ∧ deep ≤ 1000) (rd1 : RS → T × RS) (lo : Nat) (H1 : TermY n (E+4) bs g (deep + 1) rd1 lo) (Hi1 : ∀ s, InvL bs lo s → InvL bs lo (rd1 s).2) (hlo : lo ≤ i) (m : Int × RS) (hm : manyR bs ⟨i, tm + 1, 0⟩ 1 0 40 = m) (w : List T × RS) (hw : someZ rd1 m.1.toNat m.2 [] = w) (e6 : env 6 = .int .i64 104) :
    den Try.prog cfg5 (evalFn Try.prog cfg5 n (E+4)) n tm5 K env st = some (.tree (encT (tupT (kgOf w.1) w.1)), rC bs g w.2 :: os) := by
  have hs1 : InvR bs ⟨i, tm + 1, 0⟩ := ⟨hs.i, hs.len, by have := hs.lo; dsimp only at this ⊢; omega, by dsimp only; omega, fun _ => by have := hs.ok rfl; dsimp only at this ⊢; omega⟩
  have htm0 := (hs.ok rfl).1
  dsimp only at htm0
  have f1 := i_add Try.prog 3 tm 1 (by omega) (by omega)
  have hmi := hs1.many (k := 1) (a := 0) (b := 40)
  have hmr := manyR_range (bs := bs) (s := ⟨i, tm + 1, 0⟩) (k := 1) (a := 0) (b := 40) (by decide) (by decide)
  have cc := fun D (st : St) (hp : st 0 = ⟨0, .buf (rC bs g ⟨i, tm + 1, 0⟩)⟩) => callA_ptr (call := evalFn Try.prog cfg5 n (E+4)) [.int .i64 1, .int .i64 0, .int .i64 40] rfl (rcount_eq n (E+1) (by omega) bs g ⟨i, tm + 1, 0⟩ 1 0 40 hs1.okR (by decide)) D hp
  have hmu := Nat.le_trans hlo (manyR_mono (bs := bs) (s := ⟨i, tm + 1, 0⟩) (k := 1) (a := 0) (b := 40)).1
  rw [hm] at cc hmi hmr hmu
  obtain ⟨v, r0⟩ := m
  dsimp only at cc hmi hmr hw
  obtain ⟨c, rfl⟩ : ∃ c : Nat, v = c := ⟨v.toNat, by omega⟩
  rw [Int.toNat_natCast] at hw
  have bd := bdT_5Z
  have stw := fun s p k' => st_Tt s p k' (tupT .n [])
  have st6w := fun t k' p st => stT_6 t k' p st (.int .i64 0) (.bool false) (.sl [] 0 .nil) (.str []) (.int .i64 0) (.sl [] 0 .nil) (tupT .n [])
  have y0 : ((104 : Int) == 108) = false := by decide
  have y1 : ((104 : Int) == 97) = false := by decide
  have y2 : ((104 : Int) == 98) = false := by decide
  have y3 : ((104 : Int) == 110) = false := by decide
  have y4 : ((104 : Int) == 119) = false := by decide
  have y5 : ((104 : Int) == 109) = false := by decide
  have y6 : ((104 : Int) == 104) = true := by decide
  simp only [cells0] at j4
  simp only [rC] at j0 cc
  simp only [tm5, tm4, tm3, tm2, tm1, tmC, seqR, ins27, c27, Nat.reduceEqDiff, ↓reduceIte, Try.f32, Option.getD_some, simB, keep5, Nat.reduceBEq, own5, String.reduceAppend, String.reduceBEq, Bool.or_false, Bool.or_true, Bool.or_self, ↓reduceIte, Nat.reduceEqDiff, Nat.reduceAdd, simA, simL, simN, Nat.zero_add, e0, e1, e4, e6, j0, j4, j8, zeroT, y_eql, opA_nck, nckA_p, fa63_2, ld59_2, f1, st_iY, stY_2, y0, y1, y2, y3, y4, y5, y6, cc, bd, stw, st6w, den_loop]
  refine loop_ends (X := Nat × RS × List T) (fun q env st => env 0 = .ptr 0 0 0 ∧ env 1 = .int .i64 deep ∧ env 4 = .ptr 4 1 0 ∧ env 7 = .int .i64 (c : Int) ∧ env 8 = .ptr 8 1 0 ∧ env 9 = .int .i64 (q.1 : Int) ∧ q.1 ≤ c ∧ st 0 = ⟨0, .buf (rC bs g q.2.1)⟩ ∧ st 4 = ⟨1, .buf [.int .i64 0, .bool false, .sl [] 0 .nil, .str [], .int .i64 0, .sl [] 0 .nil]⟩ ∧ (∃ x, Ap st 154 x q.2.2 ∧ TermM (st 8) (tupT .n []) q.2.2 x) ∧ InvL bs lo q.2.1 ∧ q.2.2.length ≤ q.1 ∧ someZ rd1 (c - q.1) q.2.1 q.2.2 = w) (fun q => c - q.1) (fun _ => (.tree (encT (tupT (kgOf w.1) w.1)), rC bs g w.2 :: os)) ?_ n (0, r0, []) _ _ (by dsimp only; omega) ⟨(by simp only [zfk, ↓reduceIte, Nat.reduceEqDiff, e0]; try rfl), (by simp only [zfk, ↓reduceIte, Nat.reduceEqDiff, e1]; try rfl), (by simp only [zfk, ↓reduceIte, Nat.reduceEqDiff, e4]; try rfl), (by simp only [zfk, ↓reduceIte, Nat.reduceEqDiff]; try rfl), (by simp only [zfk, ↓reduceIte, Nat.reduceEqDiff]; try rfl), (by simp only [zfk, ↓reduceIte, Nat.reduceEqDiff]; try rfl), Nat.zero_le _, (by simp only [zfk, ↓reduceIte, Nat.reduceEqDiff]; try rfl), (by simp only [zfk, ↓reduceIte, Nat.reduceEqDiff, j4]; try rfl), ⟨.sl [] 0 .nil, .inl ⟨rfl, rfl⟩, .inl ⟨rfl, rfl, (by simp only [zfk, ↓reduceIte, Nat.reduceEqDiff]; try rfl)⟩⟩, ⟨hmi, fun _ => hmu⟩, Nat.le_refl _, hw⟩
  rintro rd' ⟨k, cur, acc⟩ hrd ih env1 s1 ⟨e0', e1', e4', e7, e8, e9, hi, k0, k4, ⟨x, ap, tmm⟩, hcur, hacc, hfin⟩
  dsimp only at hi k0 hcur ap tmm hacc hfin e9
  have ta := tmm.all
  have hsK : setK (tupT .n []) (kgOf acc) acc = tupT (kgOf acc) acc := rfl
  rw [hsK] at ta
  have stq := fun s p k' => st_Tt s p k' (tupT (kgOf acc) acc)
  have st6q := fun t k' p st => stT_6 t k' p st (.int .i64 0) (.bool false) (.sl [] 0 .nil) (.str []) (.int .i64 0) (.sl [] 0 .nil) (tupT (kgOf acc) acc)
  obtain ⟨ci, ctm, ce⟩ := cur
  by_cases hlt : k < c
  · have q1 : (k : Int) < (c : Int) := by omega
    by_cases hce : ce = 0
    · have b1 : (ce == 0) = true := by rw [hce]; rfl
      obtain ⟨m, hm'⟩ : ∃ m, c - k = m + 1 := ⟨c - k - 1, by omega⟩
      have c1 := fun D' (st : St) (hp : st 0 = ⟨0, .buf (rC bs g ⟨ci, ctm, ce⟩)⟩) => callA_ptr (call := evalFn Try.prog cfg5 n (E+4)) [.int .i64 (deep + 1)] rfl (H1 ⟨ci, ctm, ce⟩ hcur) D' hp
      have hci := Hi1 _ hcur
      rw [hm'] at hfin
      simp only [someZ] at hfin
      rw [if_neg (fun h => h hce)] at hfin
      obtain ⟨z, hx⟩ : ∃ z, rd1 ⟨ci, ctm, ce⟩ = z := ⟨_, rfl⟩
      rw [hx] at c1 hci hfin
      obtain ⟨u, r⟩ := z
      dsimp only at c1 hci hfin
      obtain ⟨Y, hY⟩ : ∃ Y, rC bs g r = Y := ⟨_, rfl⟩
      rw [hY] at c1
      have g8 := i_add Try.prog 3 (k : Int) 1 (by omega) (by omega)
      have g9 := i_add Try.prog 3 deep 1 (by omega) (by omega)
      simp only [encT] at c1
      have hm2 : c - (k + 1) = m := by omega
      have hx8 : Go.Ab.noH 8 x = true := ap.noH (by decide)
      have ap1 : Ap (upd s1 0 ⟨0, .buf Y⟩) 154 x acc := ap.at (upd_ne _ _ (by decide))
      obtain ⟨x', s', a1', a2', a3'⟩ := ap1.push (by omega) u
      have h8' : s' 8 = s1 8 := (a3' 8 (by decide)).trans (upd_ne _ _ (by decide))
      have tf := tmm.fa 8
      have tl := tmm.ld
      have tm3 : TermM (s' 8) (tupT .n []) acc x := by rw [h8']; exact tmm
      obtain ⟨s2, b1', b2', b3'⟩ := tm3.store a2' (by simp)
      have tf' := tm3.fa 8
      simp only [rC] at k0 c1
      simp only [simB, keep5, Nat.reduceBEq, own5, String.reduceAppend, String.reduceBEq, Bool.or_false, Bool.or_true, Bool.or_self, ↓reduceIte, Nat.reduceEqDiff, Nat.reduceAdd, simA, simL, simN, Nat.zero_add, y_lss, y_eql, e0', e1', e4', e7, e8, e9, q1, k0, c1, opA_nck, nckA_p, fa63_3, ld59_3, b1, faT_4, Nat.reduceAdd, tf, tl, opA_one26Y, one26_T, a1', tf', b1', g8, g9, den_gotoG]
      refine Eq.trans (gotoG_H 8 149 _ rfl (by decide) (by decide) _ _ (p := 8) (k := 1) (o := 0) (by simp only [zfk, ↓reduceIte, Nat.reduceEqDiff, e8]; try rfl) (by simp only [zfk, ↓reduceIte, Nat.reduceEqDiff]; try rfl)) ?_
      refine Eq.trans (gotoG_H 8 151 _ rfl (by decide) (by decide) _ _ (p := 8) (k := 1) (o := 0) (by simp only [zfk, ↓reduceIte, Nat.reduceEqDiff, e8]; try rfl) (by simp only [zfk, ↓reduceIte, Nat.reduceEqDiff]; try rfl)) ?_
      refine Eq.trans (gotoG_D 8 152 _ rfl (by decide) (by decide) _ _ (p := 8) (k := 1) (o := 0) (by simp only [zfk, ↓reduceIte, Nat.reduceEqDiff, e8]; try rfl) (by decide)) ?_
      refine Eq.trans (gotoG_H 147 149 _ rfl (by decide) (by decide) _ _ (p := 8) (k := 1) (o := 5) (by simp only [zfk, ↓reduceIte, Nat.reduceEqDiff]; try rfl) (by simp only [zfk, ↓reduceIte, Nat.reduceEqDiff]; try rfl)) ?_
      refine Eq.trans (gotoG_H 147 151 _ rfl (by decide) (by decide) _ _ (p := 8) (k := 1) (o := 5) (by simp only [zfk, ↓reduceIte, Nat.reduceEqDiff]; try rfl) (by simp only [zfk, ↓reduceIte, Nat.reduceEqDiff]; try rfl)) ?_
      refine Eq.trans (gotoG_D 147 152 _ rfl (by decide) (by decide) _ _ (p := 8) (k := 1) (o := 5) (by simp only [zfk, ↓reduceIte, Nat.reduceEqDiff]; try rfl) (by decide)) ?_
      refine Eq.trans (gotoG_H 8 149 _ rfl (by decide) (by decide) _ _ (p := 8) (k := 1) (o := 0) (by simp only [zfk, ↓reduceIte, Nat.reduceEqDiff, e8]; try rfl) (by simp only [zfk, ↓reduceIte, Nat.reduceEqDiff]; try rfl)) ?_
      refine Eq.trans (gotoG_H 8 151 _ rfl (by decide) (by decide) _ _ (p := 8) (k := 1) (o := 0) (by simp only [zfk, ↓reduceIte, Nat.reduceEqDiff, e8]; try rfl) (by simp only [zfk, ↓reduceIte, Nat.reduceEqDiff]; try rfl)) ?_
      refine Eq.trans (gotoG_D 8 152 _ rfl (by decide) (by decide) _ _ (p := 8) (k := 1) (o := 0) (by simp only [zfk, ↓reduceIte, Nat.reduceEqDiff, e8]; try rfl) (by decide)) ?_
      refine Eq.trans (gotoG_H 8 148 _ rfl (by decide) (by decide) _ _ (p := 8) (k := 1) (o := 0) (by simp only [zfk, ↓reduceIte, Nat.reduceEqDiff, e8]; try rfl) (by simp only [zfk, ↓reduceIte, Nat.reduceEqDiff]; exact hx8)) ?_
      refine Eq.trans (gotoG_H 8 153 _ rfl (by decide) (by decide) _ _ (p := 8) (k := 1) (o := 0) (by simp only [zfk, ↓reduceIte, Nat.reduceEqDiff, e8]; try rfl) (by simp only [zfk, ↓reduceIte, Nat.reduceEqDiff]; try rfl)) ?_
      refine Eq.trans (gotoG_D 8 154 _ rfl (by decide) (by decide) _ _ (p := 8) (k := 1) (o := 0) (by simp only [zfk, ↓reduceIte, Nat.reduceEqDiff, e8]; try rfl) (by decide)) ?_
      refine ih (k + 1, r, acc ++ [u]) _ _ (by dsimp only; omega) rfl ⟨(by simp only [zfk, ↓reduceIte, Nat.reduceEqDiff, e0']; try rfl), (by simp only [zfk, ↓reduceIte, Nat.reduceEqDiff, e1']; try rfl), (by simp only [zfk, ↓reduceIte, Nat.reduceEqDiff, e4']; try rfl), (by simp only [zfk, ↓reduceIte, Nat.reduceEqDiff, e7]; try rfl), (by simp only [zfk, ↓reduceIte, Nat.reduceEqDiff, e8]; try rfl), (by simp only [zfk, ↓reduceIte, Nat.reduceEqDiff]; try rfl), by dsimp only; omega, ?_, ?_, ⟨x', ?_, b3'⟩, hci, by dsimp only; rw [List.length_append]; simp only [List.length_cons, List.length_nil]; omega, by dsimp only; rw [hm2]; exact hfin⟩
      · rw [b2' 0 (by decide), a3' 0 (by decide), upd_same, hY]
      · rw [b2' 4 (by decide), a3' 4 (by decide), upd_ne _ _ (by decide)]; exact k4
      · exact a2'.at (b2' 154 (by decide))
    · have b1 : (ce == 0) = false := beq_eq_false_iff_ne.mpr hce
      rw [someZ_off rd1 _ _ _ hce] at hfin
      rw [← hfin]
      simp only [rC] at k0
      simp only [simB, keep5, Nat.reduceBEq, own5, String.reduceAppend, String.reduceBEq, Bool.or_false, Bool.or_true, Bool.or_self, ↓reduceIte, Nat.reduceEqDiff, Nat.reduceAdd, simA, simL, simN, Nat.zero_add, y_lss, y_eql, e0', e1', e4', e7, e8, e9, q1, k0, k4, opA_nck, nckA_p, fa63_3, ld59_3, b1, ta, stq, st6q, hK2]
      exact finish_cY _ _ _ 4 4 1 (tupT (kgOf acc) acc) _ _ (by simp only [zfk, ↓reduceIte, Nat.reduceEqDiff, e4']; try rfl) (by simp only [zfk, ↓reduceIte, Nat.reduceEqDiff]; try rfl) (ho _ _ (by simp only [zfk, ↓reduceIte, Nat.reduceEqDiff, k0]; try rfl))
  · have hie : k = c := by omega
    subst hie
    rw [Nat.sub_self] at hfin
    simp only [someZ] at hfin
    rw [← hfin]
    have q1 : ¬ (k : Int) < (k : Int) := by omega
    simp only [simB, keep5, Nat.reduceBEq, own5, String.reduceAppend, String.reduceBEq, Bool.or_false, Bool.or_true, Bool.or_self, ↓reduceIte, Nat.reduceEqDiff, Nat.reduceAdd, simA, simL, simN, Nat.zero_add, y_lss, e0', e1', e4', e7, e8, e9, q1, k4, ta, stq, st6q, hK2]
    exact finish_cY _ _ _ 4 4 1 (tupT (kgOf acc) acc) _ _ (by simp only [zfk, ↓reduceIte, Nat.reduceEqDiff, e4']; try rfl) (by simp only [zfk, ↓reduceIte, Nat.reduceEqDiff]; try rfl) (ho _ _ (by simp only [zfk, ↓reduceIte, Nat.reduceEqDiff, k0]; try rfl))
end
end Go.Ab

/- The reference's Term, whole (CFG5). Conditions: places in range. -/
namespace Go.Ab
open Go.Proofs
set_option maxRecDepth 100000
set_option linter.unusedSimpArgs false

theorem plain_e106 (bs : List UInt8) (fr : Nat) (t : Int) (h : (bs.drop fr).take 1 = [106]) : plainR bs ⟨fr + 1, t, 0⟩ 106 fr = (nilT', ⟨fr + 1, t, 0⟩) := by
  have hp : putB nilT' = [106] := rfl
  have ho : ownT nilT' = true := rfl
  have he : endR bs ⟨fr + 1, t, 0⟩ nilT' fr = ⟨fr + 1, t, 0⟩ := by
    unfold endR
    rw [if_neg]
    intro hh
    apply hh.2
    dsimp only
    rw [hp, ho, Nat.add_sub_cancel_left, h]
    exact ⟨rfl, rfl⟩
  have h2 : plainR bs ⟨fr + 1, t, 0⟩ 106 fr = (nilT', endR bs ⟨fr + 1, t, 0⟩ nilT' fr) := rfl
  rw [h2, he]
theorem termZ_invL (bs : List UInt8) (lo f : Nat) (deep : Int) (s : RS) (hs : InvL bs lo s) : InvL bs lo (termZ bs f deep s).2 := by
  by_cases he : s.e = 0
  · obtain ⟨h1, h2, h3⟩ := like_term bs f deep s hs.1 he
    refine ⟨h1, fun h => ?_⟩
    rw [h2] at h
    rw [(h3 h).1]
    exact Nat.le_trans (hs.2 he) (termR_inv bs f deep s hs.1).2
  · rw [termZ_off he]; exact hs
set_option maxHeartbeats 4000000 in
theorem rterm_no (n E : Nat) (hn : 2200 ≤ n) (bs : List UInt8) (g : Grip) (f : Nat) (deep : Int) (s : RS) (hs : InvR bs s)
    (he : (takeR bs s 1).2.e ≠ 0) :
    evalFn Try.prog cfg5 n (E+5) 32 [.ptr (rC bs g s) 0, .tree (.int .i64 deep)] = some (.tree (encT (termZ bs (f+1) deep s).1), [rC bs g (termZ bs (f+1) deep s).2, []]) := by
  rw [evalFn_goP _ Try.func32 (by unfold Try.f32; rfl) (by unfold Try.f32; decide) (Nat.le_of_ble_eq_true (by unfold Try.f32; rfl)) (by kernel_rfl)]
  have e0 : env0 [.ptr (rC bs g s) 0, .tree (.int .i64 deep)] 0 = .ptr 0 0 0 := rfl
  have e1 : env0 [.ptr (rC bs g s) 0, .tree (.int .i64 deep)] 1 = .int .i64 deep := rfl
  have j0 : st0 [.ptr (rC bs g s) 0, .tree (.int .i64 deep)] 0 = ⟨0, .buf (rC bs g s)⟩ := rfl
  have j4 : (st0 [.ptr (rC bs g s) 0, .tree (.int .i64 deep)] 4).t = 0 := rfl
  have j8 : (st0 [.ptr (rC bs g s) 0, .tree (.int .i64 deep)] 8).t = 0 := rfl
  have ho : ∀ s' ys, s' 0 = ⟨0, .buf ys⟩ → outsA s' 0 [.ptr (rC bs g s) 0, .tree (.int .i64 deep)] = some [ys, []] := fun s' ys h => outs_ptr s' (rC bs g s) ys h [.int .i64 deep]
  generalize [Arg.ptr (rC bs g s) 0, .tree (.int .i64 deep)] = as1 at e0 e1 j0 j4 j8 ho
  generalize env0 as1 = env at e0 e1
  generalize st0 as1 = st at j0 j4 j8
  have ct := fun D (st : St) (hp : st 0 = ⟨0, .buf (rC bs g s)⟩) => callA_ptr (call := evalFn Try.prog cfg5 n (E+4)) [.int .i64 1] rfl (rtake_eq n (E+2) (by omega) bs g s 1 hs.okR (by decide)) D hp
  have st0T := fun s p k' => st_Tt s p k' T0
  have s60T := fun t k' p st => stT_6 t k' p st (.int .i64 0) (.bool false) (.sl [] 0 .nil) (.str []) (.int .i64 0) (.sl [] 0 .nil) T0
  show den Try.prog cfg5 _ n (prune cfg5.keep ((Try.f32.body).getD .skip)) _ _ _ = _
  rw [tm_prune]
  simp only [termZ]
  rw [if_pos he]
  obtain ⟨w, hw⟩ : ∃ w, (takeR bs s 1).2 = w := ⟨_, rfl⟩
  rw [hw] at ct he ⊢
  obtain ⟨ri, rtm, re⟩ := w
  dsimp only at he
  have b0 : (re == 0) = false := beq_eq_false_iff_ne.mpr he
  have b1 : (re != 0) = true := by simpa using he
  generalize numR bs s 1 = v at ct
  simp only [rC] at j0 ct ⊢
  simp only [tm2, tm1, tmC, seqL, seqR, ins27, Nat.reduceEqDiff, ↓reduceIte, Try.f32, Option.getD_some, simB, keep5, Nat.reduceBEq, own5, String.reduceAppend, String.reduceBEq, Bool.or_false, Bool.or_true, Bool.or_self, ↓reduceIte, Nat.reduceEqDiff, Nat.reduceAdd, simA, simL, simN, Nat.zero_add, e0, e1, j0, j4, zeroT, opA_nck, nckA_p, fa63_1, fa63_3, ld59_1, ld59_3, ct, y_eql, y_neq, b0, b1, bdY_00, st0T, s60T]
  exact finish_cY _ _ _ 4 4 1 T0 _ _ (by simp only [zfk, ↓reduceIte, Nat.reduceEqDiff]; try rfl) (by simp only [zfk, ↓reduceIte, Nat.reduceEqDiff]; try rfl) (ho _ _ (by simp only [zfk, ↓reduceIte, Nat.reduceEqDiff]; try rfl))
set_option maxHeartbeats 4000000 in
theorem rterm_step (n E : Nat) (hn : 2200 ≤ n) (hE : 6015 ≤ E) (bs : List UInt8) (g : Grip) (f : Nat) (deep : Int) (hdp : -1000 ≤ deep ∧ deep ≤ 1000) (s : RS) (hs : InvR bs s)
    (lo : Nat) (hlo : s.e = 0 → lo ≤ s.i + 1) (H1 : deep ≤ 60 → TermY n (E+3) bs g (deep+1) (termZ bs f (deep+1)) lo) (H2 : TermY n (E+3) bs g deep (termZ bs f deep) lo) (H3 : deep ≤ 60 → TermY n (E+4) bs g (deep+1) (termZ bs f (deep+1)) lo) :
    evalFn Try.prog cfg5 n (E+5) 32 [.ptr (rC bs g s) 0, .tree (.int .i64 deep)] = some (.tree (encT (termZ bs (f+1) deep s).1), [rC bs g (termZ bs (f+1) deep s).2, []]) := by
  by_cases he : (takeR bs s 1).2.e = 0
  rotate_left
  · exact rterm_no n E hn bs g f deep s hs he
  rw [evalFn_goP _ Try.func32 (by unfold Try.f32; rfl) (by unfold Try.f32; decide) (Nat.le_of_ble_eq_true (by unfold Try.f32; rfl)) (by kernel_rfl)]
  have e0 : env0 [.ptr (rC bs g s) 0, .tree (.int .i64 deep)] 0 = .ptr 0 0 0 := rfl
  have e1 : env0 [.ptr (rC bs g s) 0, .tree (.int .i64 deep)] 1 = .int .i64 deep := rfl
  have j0 : st0 [.ptr (rC bs g s) 0, .tree (.int .i64 deep)] 0 = ⟨0, .buf (rC bs g s)⟩ := rfl
  have j4 : (st0 [.ptr (rC bs g s) 0, .tree (.int .i64 deep)] 4).t = 0 := rfl
  have j8 : (st0 [.ptr (rC bs g s) 0, .tree (.int .i64 deep)] 8).t = 0 := rfl
  have ho : ∀ s' ys, s' 0 = ⟨0, .buf ys⟩ → outsA s' 0 [.ptr (rC bs g s) 0, .tree (.int .i64 deep)] = some [ys, []] := fun s' ys h => outs_ptr s' (rC bs g s) ys h [.int .i64 deep]
  generalize [Arg.ptr (rC bs g s) 0, .tree (.int .i64 deep)] = as1 at e0 e1 j0 j4 j8 ho
  generalize env0 as1 = env at e0 e1
  generalize st0 as1 = st at j0 j4 j8
  have ct := fun D (st : St) (hp : st 0 = ⟨0, .buf (rC bs g s)⟩) => callA_ptr (call := evalFn Try.prog cfg5 n (E+4)) [.int .i64 1] rfl (rtake_eq n (E+2) (by omega) bs g s 1 hs.okR (by decide)) D hp
  have st0T := fun s p k' => st_Tt s p k' T0
  have s60T := fun t k' p st => stT_6 t k' p st (.int .i64 0) (.bool false) (.sl [] 0 .nil) (.str []) (.int .i64 0) (.sl [] 0 .nil) T0
  show den Try.prog cfg5 _ n (prune cfg5.keep ((Try.f32.body).getD .skip)) _ _ _ = _
  rw [tm_prune]
  · obtain ⟨h2, h3, h4, h5⟩ := stepR hs he
    obtain ⟨c, hc, hcm⟩ := take1 h4
    have htz : termZ bs (f + 1) deep s = tagZ bs (termZ bs f (deep + 1)) (termZ bs f deep) deep ⟨s.i + 1, s.tm, 0⟩ c.toNat s.i := by
      simp only [termZ]
      rw [if_neg (fun h => h he), h2, h5, hc]
      rfl
    have hnum : numR bs s 1 = ((c.toNat : Nat) : Int) := by
      unfold numR
      rw [h5, hc]
      simp [beV]
    have htm := hs.ok h3
    have hlo2 := hlo h3
    have hs0 : InvR bs ⟨s.i + 1, s.tm, 0⟩ := ⟨h4, hs.len, by dsimp only; omega, by dsimp only; omega, fun _ => htm⟩
    rw [htz]
    rw [hnum, h2] at ct
    obtain ⟨i, tm, e⟩ := s
    dsimp only at h3 htm h4 hc hs0 hlo2
    subst h3
    show den Try.prog cfg5 _ n (.seq (seqL tmC) (.seq (seqL tm1) (.seq (seqL tm2) tm3))) _ _ _ = _
    simp only [tm2, tm1, tmC, seqL, seqR, ins27, Nat.reduceEqDiff, ↓reduceIte, Try.f32, Option.getD_some]
    simp only [rC] at j0 ct
    simp only [simB, keep5, Nat.reduceBEq, own5, String.reduceAppend, String.reduceBEq, Bool.or_false, Bool.or_true, Bool.or_self, ↓reduceIte, Nat.reduceEqDiff, Nat.reduceAdd, simA, simL, simN, Nat.zero_add, e0, e1, j0, j4, zeroT, opA_nck, nckA_p, fa63_1, ld59_1, ct]
    generalize htag : c.toNat = tag
    by_cases hb : tm ≥ 2000 ∨ deep > 60
    · have hz : tagZ bs (termZ bs f (deep + 1)) (termZ bs f deep) deep ⟨i + 1, tm, 0⟩ tag i = (T0, ⟨i + 1, tm, 4⟩) := by
        unfold tagZ
        rw [if_pos (.inr hb)]; rfl
      rw [hz]
      by_cases hk : knownZ tag
      · refine (tm3_known n (E+3) bs g deep (i+1) i tm tag as1 [[]] ho _ (fun _ _ => rfl) _ _ (by simp only [zfk, ↓reduceIte, Nat.reduceEqDiff, e0]; try rfl) (by simp only [zfk, ↓reduceIte, Nat.reduceEqDiff, e1]; try rfl) (by simp only [zfk, ↓reduceIte, Nat.reduceEqDiff]; try rfl) (by simp only [zfk, ↓reduceIte, Nat.reduceEqDiff]; try rfl) (by simp only [zfk, ↓reduceIte, Nat.reduceEqDiff]; try rfl) (by simp only [zfk, ↓reduceIte, Nat.reduceEqDiff]; try rfl) (by simp only [zfk, ↓reduceIte, Nat.reduceEqDiff]; try rfl) (by simp only [zfk, ↓reduceIte, Nat.reduceEqDiff, j8]; try rfl) hk (.tree (encT T0), []) (fun h => absurd hb h)).trans ?_
        rw [if_pos hb]
      · exact tm3_other n (E+3) bs g (i+1) tm tag as1 [[]] ho _ (fun _ _ => rfl) _ _ (by simp only [zfk, ↓reduceIte, Nat.reduceEqDiff, e0]; try rfl) (by simp only [zfk, ↓reduceIte, Nat.reduceEqDiff]; try rfl) (by simp only [zfk, ↓reduceIte, Nat.reduceEqDiff]; try rfl) (by simp only [zfk, ↓reduceIte, Nat.reduceEqDiff]; try rfl) (by simp only [zfk, ↓reduceIte, Nat.reduceEqDiff]; try rfl) hk
    · have htm2 : tm < 2000 := by omega
      by_cases hk : knownZ tag
      · refine (tm3_known n (E+3) bs g deep (i+1) i tm tag as1 [[]] ho _ (fun _ _ => rfl) _ _ (by simp only [zfk, ↓reduceIte, Nat.reduceEqDiff, e0]; try rfl) (by simp only [zfk, ↓reduceIte, Nat.reduceEqDiff, e1]; try rfl) (by simp only [zfk, ↓reduceIte, Nat.reduceEqDiff]; try rfl) (by simp only [zfk, ↓reduceIte, Nat.reduceEqDiff]; try rfl) (by simp only [zfk, ↓reduceIte, Nat.reduceEqDiff]; try rfl) (by simp only [zfk, ↓reduceIte, Nat.reduceEqDiff]; try rfl) (by simp only [zfk, ↓reduceIte, Nat.reduceEqDiff]; try rfl) (by simp only [zfk, ↓reduceIte, Nat.reduceEqDiff, j8]; try rfl) hk (.tree (encT (tagZ bs (termZ bs f (deep + 1)) (termZ bs f deep) deep ⟨i + 1, tm, 0⟩ tag i).1), [rC bs g (tagZ bs (termZ bs f (deep + 1)) (termZ bs f deep) deep ⟨i + 1, tm, 0⟩ tag i).2, []]) (fun _ env st h0 h1 h4' h5' h6 k0 k4 k8 => ?_)).trans (if_neg hb)
        have hk' := hk
        rcases hk' with rfl | rfl | rfl | rfl | rfl | rfl | rfl | rfl
        · have hz : tagZ bs (termZ bs f (deep + 1)) (termZ bs f deep) deep ⟨i + 1, tm, 0⟩ 97 i = (numZT (numR bs ⟨i + 1, tm + 1, 0⟩ 1), (plainR bs ⟨i + 1, tm + 1, 0⟩ 97 i).2) := by
            unfold tagZ
            rw [if_neg (fun h => h.elim (fun h => h hk) hb), if_neg (by decide), if_neg (by decide), if_neg (by decide), if_pos rfl]
          rw [hz]
          exact tm5_97 (hn := hn) (hE := hE) (hs := hs0) (htm := htm2) (hfr := Nat.lt_succ_self i) (ho := ho) (K := finK Try.prog false as1 #[.cell 4 28]) (hK2 := fun _ _ => rfl) (e0 := h0) (e4 := h4') (e5 := h5') (j0 := k0) (j4 := k4) (e6 := h6)
        · have hz : tagZ bs (termZ bs f (deep + 1)) (termZ bs f deep) deep ⟨i + 1, tm, 0⟩ 98 i = (numZT (i32 (numR bs ⟨i + 1, tm + 1, 0⟩ 4)), (plainR bs ⟨i + 1, tm + 1, 0⟩ 98 i).2) := by
            unfold tagZ
            rw [if_neg (fun h => h.elim (fun h => h hk) hb), if_neg (by decide), if_neg (by decide), if_neg (by decide), if_neg (by decide), if_pos rfl]
          rw [hz]
          exact tm5_98 (hn := hn) (hE := hE) (hs := hs0) (htm := htm2) (hfr := Nat.lt_succ_self i) (ho := ho) (K := finK Try.prog false as1 #[.cell 4 28]) (hK2 := fun _ _ => rfl) (e0 := h0) (e4 := h4') (e5 := h5') (j0 := k0) (j4 := k4) (e6 := h6)
        · have hz : tagZ bs (termZ bs f (deep + 1)) (termZ bs f deep) deep ⟨i + 1, tm, 0⟩ 104 i = (tupT (kgOf (someZ (termZ bs f (deep + 1)) (manyR bs ⟨i + 1, tm + 1, 0⟩ 1 0 40).1.toNat (manyR bs ⟨i + 1, tm + 1, 0⟩ 1 0 40).2 []).1) (someZ (termZ bs f (deep + 1)) (manyR bs ⟨i + 1, tm + 1, 0⟩ 1 0 40).1.toNat (manyR bs ⟨i + 1, tm + 1, 0⟩ 1 0 40).2 []).1, (someZ (termZ bs f (deep + 1)) (manyR bs ⟨i + 1, tm + 1, 0⟩ 1 0 40).1.toNat (manyR bs ⟨i + 1, tm + 1, 0⟩ 1 0 40).2 []).2) := by
            unfold tagZ
            rw [if_neg (fun h => h.elim (fun h => h hk) hb), if_neg (by decide), if_pos rfl]
          rw [hz]
          exact tm5_104 (hn := hn) (hs := hs0) (htm := htm2) (ho := ho) (K := finK Try.prog false as1 #[.cell 4 28]) (hK2 := fun _ _ => rfl) (e0 := h0) (e4 := h4') (e1 := h1) (j0 := k0) (j4 := k4) (j8 := k8) (hdp := hdp) (H1 := H3 (by omega)) (Hi1 := fun s hs => termZ_invL bs lo f (deep+1) s hs) (hlo := hlo2) (hm := rfl) (hw := rfl) (e6 := h6)
        · have hz : tagZ bs (termZ bs f (deep + 1)) (termZ bs f deep) deep ⟨i + 1, tm, 0⟩ 106 i = (nilT', ⟨i + 1, tm + 1, 0⟩) := by
            unfold tagZ
            rw [if_neg (fun h => h.elim (fun h => h hk) hb), if_neg (by decide), if_neg (by decide), if_neg (by decide), if_neg (by decide), if_neg (by decide)]
            exact plain_e106 bs i (tm + 1) (by rw [hc]; congr 1; apply UInt8.toNat_inj.1; rw [htag]; rfl)
          rw [hz]
          exact tm5_106 (n := n) (E := E) (hs := hs0) (htm := htm2) (ho := ho) (K := finK Try.prog false as1 #[.cell 4 28]) (hK2 := fun _ _ => rfl) (e0 := h0) (e4 := h4') (j0 := k0) (j4 := k4) (e6 := h6)
        · have hz : tagZ bs (termZ bs f (deep + 1)) (termZ bs f deep) deep ⟨i + 1, tm, 0⟩ 108 i = listZ bs (termZ bs f (deep + 1)) (termZ bs f deep) ⟨i + 1, tm, 0⟩ := by
            unfold tagZ
            rw [if_neg (fun h => h.elim (fun h => h hk) hb), if_pos rfl]
          rw [hz]
          exact tm5_108 (hn := hn) (hE := hE) (hs := hs0) (ho := ho) (K := finK Try.prog false as1 #[.cell 4 28]) (hK2 := fun _ _ => rfl) (e0 := h0) (e4 := h4') (e1 := h1) (j0 := k0) (j4 := k4) (hdp := hdp) (H1 := H1 (by omega)) (H2 := H2) (Hi1 := fun s hs => termZ_invL bs lo f (deep+1) s hs) (hlo := hlo2) (e6 := h6)
        · have hz : tagZ bs (termZ bs f (deep + 1)) (termZ bs f deep) deep ⟨i + 1, tm, 0⟩ 109 i = plainR bs ⟨i + 1, tm + 1, 0⟩ 109 i := by
            unfold tagZ
            rw [if_neg (fun h => h.elim (fun h => h hk) hb), if_neg (by decide), if_neg (by decide), if_neg (by decide), if_neg (by decide), if_neg (by decide)]
          rw [hz]
          exact tm5_109 (hn := hn) (hE := hE) (hs := hs0) (htm := htm2) (hfr := Nat.lt_succ_self i) (ho := ho) (K := finK Try.prog false as1 #[.cell 4 28]) (hK2 := fun _ _ => rfl) (e0 := h0) (e4 := h4') (e5 := h5') (j0 := k0) (j4 := k4) (e6 := h6)
        · have hz : tagZ bs (termZ bs f (deep + 1)) (termZ bs f deep) deep ⟨i + 1, tm, 0⟩ 110 i = (bigTZ bs ⟨i + 1, tm + 1, 0⟩, (plainR bs ⟨i + 1, tm + 1, 0⟩ 110 i).2) := by
            unfold tagZ
            rw [if_neg (fun h => h.elim (fun h => h hk) hb), if_neg (by decide), if_neg (by decide), if_pos rfl]
          rw [hz]
          exact tm5_110 (hn := hn) (hE := hE) (hs := hs0) (htm := htm2) (hfr := Nat.lt_succ_self i) (ho := ho) (K := finK Try.prog false as1 #[.cell 4 28]) (hK2 := fun _ _ => rfl) (e0 := h0) (e4 := h4') (e5 := h5') (j0 := k0) (j4 := k4) (e6 := h6)
        · have hz : tagZ bs (termZ bs f (deep + 1)) (termZ bs f deep) deep ⟨i + 1, tm, 0⟩ 119 i = plainR bs ⟨i + 1, tm + 1, 0⟩ 119 i := by
            unfold tagZ
            rw [if_neg (fun h => h.elim (fun h => h hk) hb), if_neg (by decide), if_neg (by decide), if_neg (by decide), if_neg (by decide), if_neg (by decide)]
          rw [hz]
          exact tm5_119 (hn := hn) (hE := hE) (hs := hs0) (htm := htm2) (hfr := Nat.lt_succ_self i) (ho := ho) (K := finK Try.prog false as1 #[.cell 4 28]) (hK2 := fun _ _ => rfl) (e0 := h0) (e4 := h4') (e5 := h5') (j0 := k0) (j4 := k4) (e6 := h6)
      · have hz : tagZ bs (termZ bs f (deep + 1)) (termZ bs f deep) deep ⟨i + 1, tm, 0⟩ tag i = (T0, ⟨i + 1, tm, 4⟩) := by
          unfold tagZ
          rw [if_pos (.inl hk)]; rfl
        rw [hz]
        exact tm3_other n (E+3) bs g (i+1) tm tag as1 [[]] ho _ (fun _ _ => rfl) _ _ (by simp only [zfk, ↓reduceIte, Nat.reduceEqDiff, e0]; try rfl) (by simp only [zfk, ↓reduceIte, Nat.reduceEqDiff]; try rfl) (by simp only [zfk, ↓reduceIte, Nat.reduceEqDiff]; try rfl) (by simp only [zfk, ↓reduceIte, Nat.reduceEqDiff]; try rfl) (by simp only [zfk, ↓reduceIte, Nat.reduceEqDiff]; try rfl) hk
theorem rterm_eq (n : Nat) (hn : 2200 ≤ n) (bs : List UInt8) (g : Grip) : ∀ (f D : Nat) (deep : Int) (lo : Nat), bs.length < lo + f → 2 * f + 6030 ≤ D → 0 ≤ deep → deep ≤ 100 → TermY n D bs g deep (termZ bs f deep) lo
  | 0, D, deep, lo, hf, hD, h0, h1 => fun s hs => by
    have he : s.e ≠ 0 := fun h => by have := hs.2 h; have := hs.1.i; omega
    obtain ⟨E, rfl⟩ : ∃ E, D = E + 5 := ⟨D - 5, by omega⟩
    have e1 : termZ bs 0 deep s = termZ bs 1 deep s := by rw [termZ_off he, termZ_off he]
    rw [e1]
    exact rterm_no n E (by omega) bs g 0 deep s hs.1 (by rw [takeR_off he]; exact he)
  | f + 1, D, deep, lo, hf, hD, h0, h1 => fun s hs => by
    obtain ⟨E, rfl⟩ : ∃ E, D = E + 5 := ⟨D - 5, by omega⟩
    have IH := fun D' (deep' : Int) (hD' : 2 * f + 6030 ≤ D') (h0' : 0 ≤ deep') (h1' : deep' ≤ 100) => rterm_eq n hn bs g f D' deep' (lo + 1) (by omega) hD' h0' h1'
    exact rterm_step n E hn (by omega) bs g f deep (by omega) s hs.1 (lo + 1) (fun h => Nat.succ_le_succ (hs.2 h)) (fun h => IH (E+3) (deep+1) (by omega) (by omega) (by omega)) (IH (E+3) deep (by omega) h0 h1) (fun h => IH (E+4) (deep+1) (by omega) (by omega) (by omega))
end Go.Ab

/- The reference's Get (CFG5). Conditions: places in range. -/
namespace Go.Ab
open Go.Proofs
set_option maxRecDepth 100000
set_option linter.unusedSimpArgs false

def getZ (bs : List UInt8) (at_ : Int) : T × Int × Int :=
  if at_ < 0 ∨ at_ > bs.length then (T0, 0, 1) else
  let r := termZ bs (bs.length + 2) 1 ⟨at_.toNat, 0, 0⟩
  if r.2.e ≠ 0 then (T0, 0, r.2.e) else (r.1, (r.2.i : Int), 0)
theorem getZ_like (bs : List UInt8) (hl : bs.length ≤ 150000000000000) (at_ : Int) : bareT (getR bs at_).1 = bareT (getZ bs at_).1 ∧ (getR bs at_).2 = (getZ bs at_).2 := by
  unfold getR getZ
  by_cases hr : at_ < 0 ∨ at_ > bs.length
  · rw [if_pos hr, if_pos hr]; exact ⟨rfl, rfl⟩
  · rw [if_neg hr, if_neg hr]
    obtain ⟨h1, h2, h3⟩ := like_term bs (bs.length + 2) 1 ⟨at_.toNat, 0, 0⟩ ⟨by dsimp only; omega, hl, by dsimp only; omega, by dsimp only; omega, fun _ => by dsimp only; omega⟩ rfl
    dsimp only
    rw [h2]
    by_cases he : (termR bs (bs.length + 2) 1 ⟨at_.toNat, 0, 0⟩).2.e = 0
    · rw [if_neg (fun h => h he), if_neg (fun h => h he), (h3 he).1]
      exact ⟨(h3 he).2.symm, rfl⟩
    · rw [if_pos he, if_pos he]; exact ⟨rfl, rfl⟩
theorem z63 : zeroOf Try.prog 63 = some [.sl [] 0 .nil, .int .i64 0, .int .i64 0, .int .i64 0] := by kernel_rfl
theorem tk63 : tkOf Try.prog 63 = .st := by kernel_rfl
theorem pl63 : placesA Try.prog 63 = some [(0, 1), (1, 1), (2, 1), (3, 1)] := by kernel_rfl
theorem bd63 (bs : List UInt8) (g : Grip) (hg : g = .tight ∨ g = .loose ∨ g = .nil) (a : Int) : buildA Try.prog 63 [(0, .sl (cellsOfBytes bs) bs.length g), (1, .int .i64 a)] = some (.agg [.sl (cellsOfBytes bs) bs.length g, .int .i64 a, .int .i64 0, .int .i64 0]) := by
  rcases hg with rfl | rfl | rfl <;> (simp only [buildA, z63, tk63, pl63, Option.bind_some]; rfl)
set_option maxHeartbeats 4000000 in
theorem zget_of (n D : Nat) (bs : List UInt8) (g : Grip) (hg : g = .tight ∨ g = .loose ∨ g = .nil) (at_ : Int) (H : ∀ a : Nat, at_ = a → a ≤ bs.length → evalFn Try.prog cfg5 n D 32 [.ptr (rC bs g ⟨a, 0, 0⟩) 0, .tree (.int .i64 1)] = some (.tree (encT (termZ bs (bs.length + 2) 1 ⟨a, 0, 0⟩).1), [rC bs g (termZ bs (bs.length + 2) 1 ⟨a, 0, 0⟩).2, []])) :
    evalFn Try.prog cfg5 n (D+1) 14 [.tree (.sl (cellsOfBytes bs) bs.length g), .tree (.int .i64 at_)] = some (.tree (outG (getZ bs at_)), [[], []]) := by
  rw [evalFn_goP _ Try.func14 (by unfold Try.f14; rfl) (by unfold Try.f14; decide) (Nat.le_of_ble_eq_true (by unfold Try.f14; rfl)) (by kernel_rfl)]
  simp only [simP]
  rw [prune_S (i := 6) (c := .seq (.goto (31 * 1048576 + 4)) (.seq (.goto (32 * 1048576 + 4)) (.seq (.goto (33 * 1048576 + 4)) (.seq (.goto (29 + 1099511627776)) .skip)))) (by kernel_rfl) (by kernel_rfl)]
  rw [prune_S (i := 7) (c := .seq (.goto (9 * 1048576 + 4)) (.seq (.goto (36 * 1048576 + 4)) (.seq (.goto (37 * 1048576 + 4)) (.seq (.goto (38 * 1048576 + 4)) (.seq (.goto (34 + 1099511627776)) .skip))))) (by kernel_rfl) (by kernel_rfl)]
  have e0 : env0 [.tree (.sl (cellsOfBytes bs) bs.length g), .tree (.int .i64 at_)] 0 = .sl (cellsOfBytes bs) bs.length g := rfl
  have e1 : env0 [.tree (.sl (cellsOfBytes bs) bs.length g), .tree (.int .i64 at_)] 1 = .int .i64 at_ := rfl
  have j4 : (st0 [.tree (.sl (cellsOfBytes bs) bs.length g), .tree (.int .i64 at_)] 4).t = 0 := rfl
  have j8 : (st0 [.tree (.sl (cellsOfBytes bs) bs.length g), .tree (.int .i64 at_)] 8).t = 0 := rfl
  have j21 : (st0 [.tree (.sl (cellsOfBytes bs) bs.length g), .tree (.int .i64 at_)] 21).t = 0 := rfl
  have ho : ∀ s, outsA s 0 [.tree (.sl (cellsOfBytes bs) bs.length g), .tree (.int .i64 at_)] = some [[], []] := fun s => rfl
  generalize [Arg.tree (.sl (cellsOfBytes bs) bs.length g), .tree (.int .i64 at_)] = as1 at e0 e1 j4 j8 j21 ho
  generalize env0 as1 = env at e0 e1
  generalize st0 as1 = st at j4 j8 j21
  have st0T := fun s p k' => st_Tt s p k' T0
  have s60T := fun t k' p st => stT_6 t k' p st (.int .i64 0) (.bool false) (.sl [] 0 .nil) (.str []) (.int .i64 0) (.sl [] 0 .nil) T0
  unfold getZ
  by_cases hr : at_ < 0 ∨ at_ > bs.length
  · rw [if_pos hr]
    by_cases h1 : at_ < 0
    · simp only [simB, keep5, Nat.reduceBEq, own5, String.reduceAppend, String.reduceBEq, Bool.or_false, Bool.or_true, Bool.or_self, ↓reduceIte, Nat.reduceEqDiff, Nat.reduceAdd, simA, simL, simN, Nat.zero_add, e0, e1, j4, zeroT, y_lss, h1, bdY_00, st0T, s60T]
      exact finish_G _ _ 4 1 T0 _ _ _ _ _ (by simp only [zfk, ↓reduceIte, Nat.reduceEqDiff]; try rfl) (by simp only [zfk, ↓reduceIte, Nat.reduceEqDiff]; try rfl) (by simp only [zfk, ↓reduceIte, Nat.reduceEqDiff]; try rfl) (by simp only [zfk, ↓reduceIte, Nat.reduceEqDiff]; try rfl) (ho _)
    · have h2 := hr.resolve_left h1
      simp only [simB, keep5, Nat.reduceBEq, own5, String.reduceAppend, String.reduceBEq, Bool.or_false, Bool.or_true, Bool.or_self, ↓reduceIte, Nat.reduceEqDiff, Nat.reduceAdd, simA, simL, simN, Nat.zero_add, e0, e1, j4, zeroT, y_lss, y_gtr, h1, h2, lenB, bdY_00, st0T, s60T]
      exact finish_G _ _ 4 1 T0 _ _ _ _ _ (by simp only [zfk, ↓reduceIte, Nat.reduceEqDiff]; try rfl) (by simp only [zfk, ↓reduceIte, Nat.reduceEqDiff]; try rfl) (by simp only [zfk, ↓reduceIte, Nat.reduceEqDiff]; try rfl) (by simp only [zfk, ↓reduceIte, Nat.reduceEqDiff]; try rfl) (ho _)
  · rw [if_neg hr]
    have h1 : ¬ at_ < 0 := fun h => hr (.inl h)
    have h2 : ¬ at_ > bs.length := fun h => hr (.inr h)
    obtain ⟨a, rfl⟩ : ∃ a : Nat, at_ = a := ⟨at_.toNat, by omega⟩
    rw [Int.toNat_natCast]
    have ct := fun D' (st : St) (hp : st 21 = ⟨1, .buf (rC bs g ⟨a, 0, 0⟩)⟩) => callA_ptr (call := evalFn Try.prog cfg5 n D) [.int .i64 1] rfl (H a rfl (by omega)) D' hp
    obtain ⟨w, hw⟩ : ∃ w, termZ bs (bs.length + 2) 1 ⟨a, 0, 0⟩ = w := ⟨_, rfl⟩
    rw [hw] at ct
    rw [hw]
    obtain ⟨u, i, tm, e⟩ := w
    have bd := bd63 bs g hg (a : Int)
    have stu := fun s p k' => st_Tt s p k' u
    have s6u := fun t k' p st => stT_6 t k' p st (.int .i64 0) (.bool false) (.sl [] 0 .nil) (.str []) (.int .i64 0) (.sl [] 0 .nil) u
    dsimp only at ct ⊢
    simp only [encT] at ct
    have z0 : ((0 : Nat) : Int) = 0 := rfl
    simp only [rC] at ct
    by_cases he : e = 0
    · have b1 : (e != 0) = false := by rw [he]; rfl
      rw [if_neg (fun h => h he)]
      simp only [simB, keep5, Nat.reduceBEq, own5, String.reduceAppend, String.reduceBEq, Bool.or_false, Bool.or_true, Bool.or_self, ↓reduceIte, Nat.reduceEqDiff, Nat.reduceAdd, simA, simL, simN, Nat.zero_add, e0, e1, j4, j8, j21, zeroT, y_lss, y_gtr, y_neq, h1, h2, lenB, bd, boxA_agg, ct, opA_nck, nckA_p, fa63_1, fa63_3, ld59_1, ld59_3, b1, ldT_u, stu, s6u, den_gotoG]
      refine Eq.trans (gotoG_r 8 4 _ rfl (by decide) (by decide) _ _ (p := 8) (k := 1) (o := 0) (q := 4) (k' := 1) (o' := 0) (by simp only [zfk, ↓reduceIte, Nat.reduceEqDiff]; try rfl) (by simp only [zfk, ↓reduceIte, Nat.reduceEqDiff]; try rfl) (by decide)) ?_
      refine Eq.trans (gotoG_r 35 4 _ rfl (by decide) (by decide) _ _ (p := 21) (k := 1) (o := 0) (q := 4) (k' := 1) (o' := 0) (by simp only [zfk, ↓reduceIte, Nat.reduceEqDiff]; try rfl) (by simp only [zfk, ↓reduceIte, Nat.reduceEqDiff]; try rfl) (by decide)) ?_
      refine Eq.trans (gotoG_r 36 4 _ rfl (by decide) (by decide) _ _ (p := 21) (k := 1) (o := 0) (q := 4) (k' := 1) (o' := 0) (by simp only [zfk, ↓reduceIte, Nat.reduceEqDiff]; try rfl) (by simp only [zfk, ↓reduceIte, Nat.reduceEqDiff]; try rfl) (by decide)) ?_
      refine Eq.trans (gotoG_r 37 4 _ rfl (by decide) (by decide) _ _ (p := 21) (k := 1) (o := 1) (q := 4) (k' := 1) (o' := 0) (by simp only [zfk, ↓reduceIte, Nat.reduceEqDiff]; try rfl) (by simp only [zfk, ↓reduceIte, Nat.reduceEqDiff]; try rfl) (by decide)) ?_
      refine Eq.trans (gotoG_v _ 34 rfl _ _ (cellsT u) (by simp only [zfk, ↓reduceIte, Nat.reduceEqDiff]; try rfl)) ?_
      exact finish_G _ _ 4 1 u _ _ _ _ _ (by simp only [zfk, ↓reduceIte, Nat.reduceEqDiff]; try rfl) (by simp only [zfk, ↓reduceIte, Nat.reduceEqDiff]; try rfl) (by simp only [zfk, ↓reduceIte, Nat.reduceEqDiff]; try rfl) (by simp only [zfk, ↓reduceIte, Nat.reduceEqDiff]; try rfl) (ho _)
    · have b1 : (e != 0) = true := by simpa using he
      rw [if_pos he]
      simp only [simB, keep5, Nat.reduceBEq, own5, String.reduceAppend, String.reduceBEq, Bool.or_false, Bool.or_true, Bool.or_self, ↓reduceIte, Nat.reduceEqDiff, Nat.reduceAdd, simA, simL, simN, Nat.zero_add, e0, e1, j4, j8, j21, zeroT, y_lss, y_gtr, y_neq, h1, h2, lenB, bd, boxA_agg, ct, opA_nck, nckA_p, fa63_1, fa63_3, ld59_1, ld59_3, b1, ldT_u, stu, s6u, bdY_00, st0T, s60T, den_gotoG]
      refine Eq.trans (gotoG_r 30 4 _ rfl (by decide) (by decide) _ _ (p := 21) (k := 1) (o := 0) (q := 4) (k' := 1) (o' := 0) (by simp only [zfk, ↓reduceIte, Nat.reduceEqDiff]; try rfl) (by simp only [zfk, ↓reduceIte, Nat.reduceEqDiff]; try rfl) (by decide)) ?_
      refine Eq.trans (gotoG_r 31 4 _ rfl (by decide) (by decide) _ _ (p := 21) (k := 1) (o := 0) (q := 4) (k' := 1) (o' := 0) (by simp only [zfk, ↓reduceIte, Nat.reduceEqDiff]; try rfl) (by simp only [zfk, ↓reduceIte, Nat.reduceEqDiff]; try rfl) (by decide)) ?_
      refine Eq.trans (gotoG_r 32 4 _ rfl (by decide) (by decide) _ _ (p := 21) (k := 1) (o := 3) (q := 4) (k' := 1) (o' := 0) (by simp only [zfk, ↓reduceIte, Nat.reduceEqDiff]; try rfl) (by simp only [zfk, ↓reduceIte, Nat.reduceEqDiff]; try rfl) (by decide)) ?_
      refine Eq.trans (gotoG_v _ 29 rfl _ _ (cellsT T0) (by simp only [zfk, ↓reduceIte, Nat.reduceEqDiff]; try rfl)) ?_
      exact finish_G _ _ 4 1 T0 _ _ _ _ _ (by simp only [zfk, ↓reduceIte, Nat.reduceEqDiff]; try rfl) (by simp only [zfk, ↓reduceIte, Nat.reduceEqDiff]; try rfl) (by simp only [zfk, ↓reduceIte, Nat.reduceEqDiff]; try rfl) (by simp only [zfk, ↓reduceIte, Nat.reduceEqDiff]; try rfl) (ho _)
theorem zget_eq (n D : Nat) (hn : 2200 ≤ n) (bs : List UInt8) (g : Grip) (hg : g = .tight ∨ g = .loose ∨ g = .nil) (hl : bs.length ≤ 150000000000000) (hD : 3 * (bs.length + 2) + 6030 ≤ D) (at_ : Int) :
    evalFn Try.prog cfg5 n (D+1) 14 [.tree (.sl (cellsOfBytes bs) bs.length g), .tree (.int .i64 at_)] = some (.tree (outG (getZ bs at_)), [[], []]) :=
  zget_of n D bs g hg at_ fun a _ ha => rterm_eq n hn bs g (bs.length + 2) D 1 0 (by omega) (by omega) (by decide) (by decide) ⟨a, 0, 0⟩ ⟨⟨ha, hl, by dsimp only; omega, by dsimp only; omega, fun _ => by dsimp only; omega⟩, fun _ => Nat.zero_le _⟩
end Go.Ab

/- relictlaw00.SameTerm of terms that differ in their rows' room alone. Conditions: lengths in range. -/
namespace Go.Ab
open Go.Proofs
set_option maxRecDepth 100000
set_option linter.unusedSimpArgs false

theorem bareK_drop : ∀ (i : Nat) (ks : List T), bareK (ks.drop i) = (bareK ks).drop i
  | 0, ks => by simp
  | i + 1, [] => rfl
  | i + 1, t :: r => by simp only [List.drop_succ_cons, bareK, bareK_drop i r]
theorem htK_Z : ∀ (ks : List T) (i : Nat) (t : T) (r : List T), ks.drop i = t :: r → htT t ≤ htK ks
  | [], i, t, r, h => by simp at h
  | a :: q, 0, t, r, h => by
    simp only [List.drop_zero, List.cons.injEq] at h
    obtain ⟨rfl, rfl⟩ := h
    simp only [htK]; omega
  | a :: q, i + 1, t, r, h => by
    have := htK_Z q i t r (by simpa using h)
    simp only [htK]; omega
set_option maxHeartbeats 4000000 in
theorem sameZ_eq (n : Nat) (hn : 100000 ≤ n) : ∀ (d : Nat) (x y : T), htT x ≤ d → fewT 100000 x → bareT x = bareT y →
    evalFn Try.prog cfg0 n (d+2) 15 [.tree (encT x), .tree (encT y)] = some (.tree (.bool true), [[], []])
  | 0, x, y, hd, _, _ => by obtain ⟨k, b, lg, l, s, m, kg, ks⟩ := x; simp only [htT] at hd; omega
  | d + 1, x, y, hd, hf, hb => by
    have IH := sameZ_eq n hn d
    rw [evalFn_go _ Try.func15 (by unfold Try.f15; rfl) (by unfold Try.f15; decide) (Nat.le_of_ble_eq_true (by unfold Try.f15; rfl)) (by kernel_rfl)]
    obtain ⟨k, b, lg, l, s, m, kg, ks⟩ := x
    obtain ⟨k', b', lg', l', s', m', kg', ks'⟩ := y
    simp only [bareT, T.mk.injEq, true_and] at hb
    obtain ⟨rfl, rfl, rfl, rfl, rfl, hb⟩ := hb
    have hkl : ks.length = ks'.length := by have := congrArg List.length hb; rwa [bareK_len, bareK_len] at this
    simp only [htT] at hd
    simp only [fewT] at hf
    obtain ⟨hl, hk, hfk⟩ := hf
    have cn := fun D st => callA_trees (cfg := cfg0) (d := D) (s := st) (f := 33) (vs := [encA b lg l, encA b lg' l]) (by cases lg <;> cases lg' <;> rfl) (sameN_eq n d b lg lg' l (by omega) (by omega))
    simp only [encA] at cn
    have w1 : (k != k) = false := by simp
    have w2 : (m != m) = false := by simp
    have w3 : (!(s == s)) = false := by simp
    have w4 : ((ks'.length : Int) != (ks'.length : Int)) = false := by simp
    simp only [simB, zbo, Nat.reduceBEq, own0, ↓reduceIte, Nat.reduceEqDiff, Nat.reduceAdd, simA, simL, simN, Nat.zero_add, encT, cellsT, hkl, ldT_0, ldT_1, ldT_2, ldT_3, ldT_4, faT_0, faT_1, faT_2, faT_3, faT_4, Nat.reduceAdd, i_neqV, i_eqlV, s_eqlS, s_neqS, w1, w2, w3, w4, cn, unA_not', Bool.not_true, lenTk, st0_2, zen, den_loop]
    refine loop_ends (X := Nat) (fun i env s' => env 2 = .ptr 2 1 0 ∧ env 3 = .ptr 3 1 0 ∧ env 5 = .int .i64 (i : Int) ∧ s' 2 = ⟨1, .buf (cellsT (.mk k b lg l s m kg ks))⟩ ∧ s' 3 = ⟨1, .buf (cellsT (.mk k b lg' l s m kg' ks'))⟩ ∧ i ≤ ks.length) (fun i => ks.length - i) (fun _ => (.tree (.bool true), [[], []])) ?_ n 0 _ _ (by omega) ⟨(by simp only [zfk, ↓reduceIte, Nat.reduceEqDiff]; try rfl), (by simp only [zfk, ↓reduceIte, Nat.reduceEqDiff]; try rfl), (by simp only [zfk, ↓reduceIte, Nat.reduceEqDiff]; try rfl), by simp only [cellsT, hkl]; exact (by simp only [zfk, ↓reduceIte, Nat.reduceEqDiff]; try rfl), by simp only [cellsT]; exact (by simp only [zfk, ↓reduceIte, Nat.reduceEqDiff]; try rfl), Nat.zero_le _⟩
    rintro rr i hrr ih2 env st ⟨e2, e3, e5, j2, j3, hi⟩
    simp only [cellsT] at j2 j3
    cases hdr : ks.drop i with
    | nil =>
      have hil : i = ks.length := by have := congrArg List.length hdr; simp only [List.length_drop, List.length_nil] at this; omega
      subst hil
      have q1 : ¬ ((ks.length : Int) < (ks.length : Int)) := by omega
      simp only [simB, zbo, Nat.reduceBEq, own0, ↓reduceIte, Nat.reduceEqDiff, Nat.reduceAdd, simL, simN, Nat.zero_add, e2, e3, e5, j2, j3, faT_4, Nat.reduceAdd, ldT_4, lenTk, q1]
      exact finish_b _ _ _ _ _ _ _ (by simp only [zfk, ↓reduceIte, Nat.reduceEqDiff]; try rfl) rfl
    | cons kid r =>
      have hil : i < ks.length := by have := congrArg List.length hdr; simp only [List.length_drop, List.length_cons] at this; omega
      have q1 : (i : Int) < (ks.length : Int) := by omega
      have hkd := htK_Z ks i kid r hdr
      have hbd : bareT kid :: bareK r = bareK (ks'.drop i) := by rw [bareK_drop, ← hb, ← bareK_drop, hdr]; rfl
      cases hdr' : ks'.drop i with
      | nil => rw [hdr'] at hbd; cases hbd
      | cons kid' r' =>
      rw [hdr'] at hbd
      simp only [bareK, List.cons.injEq] at hbd
      have ck := callQ_trees (f := 15) (vs := [encT kid, encT kid']) rfl (IH kid kid' (by omega) (fewK_at 100000 ks i kid r hdr hfk) hbd.1)
      have ia := fun st => ia_K st ks (gr kg) i hil
      have ia' := fun st => ia_K st ks' (gr kg') i (by omega)
      rw [hdr] at ia
      rw [hdr'] at ia'
      have ld := fun st => ld_K st kid r
      have ld' := fun st => ld_K st kid' r'
      have f5 := i_add Try.prog 3 (i : Int) 1 (by omega) (by omega)
      simp only [encT] at ld ld' ck
      simp only [simB, zbo, Nat.reduceBEq, own0, ↓reduceIte, Nat.reduceEqDiff, Nat.reduceAdd, simL, simN, Nat.zero_add, e2, e3, e5, j2, j3, faT_4, Nat.reduceAdd, ldT_4, lenTk, q1, ia, ia', ld, ld', ck, unA_not', Bool.not_true, f5]
      exact ih2 (i + 1) _ _ (by omega) rfl ⟨(by simp only [zfk, ↓reduceIte, Nat.reduceEqDiff, e2]; try rfl), (by simp only [zfk, ↓reduceIte, Nat.reduceEqDiff, e3]; try rfl), (by simp only [zfk, ↓reduceIte, Nat.reduceEqDiff]; try rfl), by simp only [cellsT]; exact (by simp only [zfk, ↓reduceIte, Nat.reduceEqDiff, j2]; try rfl), by simp only [cellsT]; exact (by simp only [zfk, ↓reduceIte, Nat.reduceEqDiff, j3]; try rfl), by omega⟩
end Go.Ab

/- relictlaw00.Term: a term in new memory (CFG5). Conditions: lengths in range. -/
namespace Go.Ab
open Go.Proofs
set_option maxRecDepth 100000
set_option linter.unusedSimpArgs false

mutual
def copyT : T → T
  | .mk k b _ l s n _ ks => .mk k b .l l s n (kgOf (copyK ks)) (copyK ks)
def copyK : List T → List T
  | [] => []
  | t :: r => copyT t :: copyK r
end
theorem copyK_map : ∀ ks : List T, copyK ks = ks.map copyT
  | [] => by simp only [copyK, List.map_nil]
  | t :: r => by simp only [copyK, List.map_cons, copyK_map r]
theorem bdT_Z (k : Int) (b : Bool) (g : Gk) (l : List Nat) (s : List UInt8) (n : Int) : buildA Try.prog 28 [(0, .int .i64 k), (1, .agg [.bool b, encL g l]), (2, .str s), (3, .int .i64 n)] = some (.agg (cellsT (.mk k b g l s n .n []))) := by
  simp only [buildA, zeroT, tkT, plT, Option.bind_some]
  cases g <;> rfl
set_option maxHeartbeats 4000000 in
theorem term5_eq (n : Nat) (hn : 100000 ≤ n) : ∀ (d : Nat) (t : T), htT t ≤ d → fewT 100000 t → evalFn Try.prog cfg5 n (d+1) 11 [.tree (encT t)] = some (.tree (encT (copyT t)), [[]])
  | 0, t, hd, _ => by obtain ⟨k, b, lg, l, s, m, kg, ks⟩ := t; simp only [htT] at hd; omega
  | d + 1, t, hd, hf => by
    have IH := term5_eq n hn d
    rw [evalFn_go _ Try.func11 (by unfold Try.f11; rfl) (by unfold Try.f11; decide) (Nat.le_of_ble_eq_true (by unfold Try.f11; rfl)) (by kernel_rfl)]
    obtain ⟨k, b, lg, l, s, m, kg, ks⟩ := t
    simp only [htT] at hd
    simp only [fewT] at hf
    obtain ⟨hl, hk, hfk⟩ := hf
    have cn := callQ_trees (f := 29) (vs := [encA b lg l]) (by cases lg <;> rfl) (ev5 (n := n) (d := d) rfl (copyN_eq 9223372036854775808 6188 b lg l (by omega)))
    simp only [encA] at cn
    have bd := bdT_Z k b .l l s m
    simp only [simB, keep5, Nat.reduceBEq, own5, String.reduceAppend, String.reduceBEq, Bool.or_false, Bool.or_true, Bool.or_self, ↓reduceIte, Nat.reduceEqDiff, Nat.reduceAdd, simA, simL, simN, Nat.zero_add, encT, zeroT, cellsT, ldT_a, ldT_0, ldT_1, ldT_2, ldT_3, ldT_4, faT_0, faT_1, faT_2, faT_3, faT_4, Nat.reduceAdd, cn, bd, st_T, stT_buf, st0_1, zen, den_loop]
    refine loop_ends (X := Nat) (fun i env s' => env 1 = .ptr 1 1 0 ∧ env 2 = .ptr 2 1 0 ∧ env 3 = .ptr 3 1 0 ∧ env 4 = .int .i64 (i : Int) ∧ s' 1 = ⟨1, .buf (cellsT (.mk k b lg l s m kg ks))⟩ ∧ s' 2 = ⟨1, .buf [.int .i64 0, .bool false, .sl [] 0 .nil, .str [], .int .i64 0, .sl [] 0 .nil]⟩ ∧ (∃ x, Ap s' 31 x ((ks.take i).map copyT) ∧ TermM (s' 3) (.mk k b .l l s m .n []) ((ks.take i).map copyT) x) ∧ i ≤ ks.length) (fun i => ks.length - i) (fun _ => (.tree (encT (copyT (.mk k b lg l s m kg ks))), [[]])) ?_ n 0 _ _ (by omega) ⟨(by simp only [zfk, ↓reduceIte, Nat.reduceEqDiff]; try rfl), (by simp only [zfk, ↓reduceIte, Nat.reduceEqDiff]; try rfl), (by simp only [zfk, ↓reduceIte, Nat.reduceEqDiff]; try rfl), (by simp only [zfk, ↓reduceIte, Nat.reduceEqDiff]; try rfl), by simp only [cellsT]; exact (by simp only [zfk, ↓reduceIte, Nat.reduceEqDiff]; try rfl), (by simp only [zfk, ↓reduceIte, Nat.reduceEqDiff]; try rfl), ⟨.sl [] 0 .nil, .inl ⟨rfl, rfl⟩, .inl ⟨rfl, rfl, (by simp only [zfk, ↓reduceIte, Nat.reduceEqDiff]; try rfl)⟩⟩, Nat.zero_le _⟩
    rintro rr i hrr ih2 env st ⟨e1, e2, e3, e4, j1, j2, ⟨x, ap, tm⟩, hi⟩
    simp only [cellsT] at j1
    cases hdr : ks.drop i with
    | nil =>
      have hil : i = ks.length := by have := congrArg List.length hdr; simp only [List.length_drop, List.length_nil] at this; omega
      subst hil
      rw [List.take_length] at tm
      have q1 : ¬ ((ks.length : Int) < (ks.length : Int)) := by omega
      have ta := tm.all
      have hc : copyT (.mk k b lg l s m kg ks) = setK (.mk k b .l l s m .n []) (kgOf (ks.map copyT)) (ks.map copyT) := by simp only [copyT, copyK_map, setK]
      rw [hc]
      simp only [simB, keep5, Nat.reduceBEq, own5, String.reduceAppend, String.reduceBEq, Bool.or_false, Bool.or_true, Bool.or_self, ↓reduceIte, Nat.reduceEqDiff, Nat.reduceAdd, simL, simN, Nat.zero_add, e1, e2, e3, e4, j1, j2, faT_4, Nat.reduceAdd, ldT_4, lenTk, q1, ta, st_Tt, stT_6]
      exact finish_cT _ _ _ _ _ (setK (.mk k b .l l s m .n []) (kgOf (ks.map copyT)) (ks.map copyT)) _ _ _ (by simp only [zfk, ↓reduceIte, Nat.reduceEqDiff, e2]; try rfl) (by simp only [zfk, ↓reduceIte, Nat.reduceEqDiff]; try rfl) rfl
    | cons kid r =>
      have hil : i < ks.length := by have := congrArg List.length hdr; simp only [List.length_drop, List.length_cons] at this; omega
      have q1 : (i : Int) < (ks.length : Int) := by omega
      have hkd := htK_Z ks i kid r hdr
      have ck := callQ_trees (f := 11) (vs := [encT kid]) rfl (IH kid (by omega) (fewK_at 100000 ks i kid r hdr hfk))
      have ia := fun st => ia_K st ks (gr kg) i hil
      rw [hdr] at ia
      have ld := fun st => ld_K st kid r
      have hx : ks[i]? = some kid := by rw [← Nat.add_zero i, ← List.getElem?_drop, hdr]; rfl
      have hm : (ks.take (i + 1)).map copyT = (ks.take i).map copyT ++ [copyT kid] := by
        rw [List.take_add_one, hx, List.map_append]; rfl
      have hlen : ((ks.take i).map copyT).length ≤ 1000000 := by rw [List.length_map, List.length_take]; omega
      obtain ⟨x', s', a1', a2', a3'⟩ := ap.push hlen (copyT kid)
      have tf := tm.fa 3
      have tl := tm.ld
      have h3 : s' 3 = st 3 := a3' 3 (by decide)
      have h1' : s' 1 = st 1 := a3' 1 (by decide)
      rw [j1] at h1'
      have tm3 : TermM (s' 3) (.mk k b .l l s m .n []) ((ks.take i).map copyT) x := by rw [h3]; exact tm
      obtain ⟨s2, b1, b2, b3⟩ := tm3.store a2' (by simp)
      have f5 := i_add Try.prog 3 (i : Int) 1 (by omega) (by omega)
      have tf' := tm3.fa 3
      simp only [encT] at ld ck
      simp only [simB, keep5, Nat.reduceBEq, own5, String.reduceAppend, String.reduceBEq, Bool.or_false, Bool.or_true, Bool.or_self, ↓reduceIte, Nat.reduceEqDiff, Nat.reduceAdd, simL, simN, Nat.zero_add, e1, e2, e3, e4, j1, j2, faT_4, Nat.reduceAdd, ldT_4, lenTk, q1, tf, tl, ia, ld, ck, opA_one26Y, one26_T, a1', h1', tf', b1, f5]
      refine ih2 (i + 1) _ _ (by omega) rfl ⟨(by simp only [zfk, ↓reduceIte, Nat.reduceEqDiff, e1]; try rfl), (by simp only [zfk, ↓reduceIte, Nat.reduceEqDiff, e2]; try rfl), (by simp only [zfk, ↓reduceIte, Nat.reduceEqDiff, e3]; try rfl), (by simp only [zfk, ↓reduceIte, Nat.reduceEqDiff]; try rfl), ?_, ?_, ⟨x', ?_, ?_⟩, by omega⟩
      · rw [b2 1 (by decide), h1']; simp only [cellsT]
      · rw [b2 2 (by decide), a3' 2 (by decide), j2]
      · rw [hm]
        rcases a2' with ⟨g1, _⟩ | ⟨g1, tt, g2, g3⟩
        · exact absurd g1 (by simp)
        · exact .inr ⟨g1, tt, g2, by rw [b2 31 (by decide)]; exact g3⟩
      · rw [hm]; exact b3
end Go.Ab
