/- Several texts put together: AbzR7, AbzR8, AbzR9, AbzA18, AbzT21, AbzT22, AbzT23, AbzT24, AbzB1, AbzB2, AbzB3, AbzA21, AbzR10, AbzA22, AbMn3, AbMn4, AbMn5, AbMn6, AbMn7, AbzA23, AbzA24. Conditions: as each part says. -/
import Derived.Test.YtpgnjcckmmkmkaaGreatDoorAbBAllZ05
import Derived.Laws.Sem
/- The reference's Len. Conditions: limbs in range, not too many. -/
namespace Go.Ab
open Go.Proofs
set_option maxRecDepth 100000
set_option linter.unusedSimpArgs false

theorem rnorm_call (n d : Nat) (b : Gk) (o : List Nat) (ho : Limbs o) (hn : o.length < n) (hl : o.length ≤ 1000000) (D : Nat) (s : St) : callA cfg0 (evalFn Tryz.prog cfg0 n (d + 1)) D s 111 [encL b o] = some (encF (val o), s) :=
  callA_L1 _ D s 111 b o _ (rnorm_eq n d b o ho hn hl)
theorem lenF (s : St) (v : Nat) : lenA Tryz.prog 25 s (encF v) = some (.int .i64 ((digs v).length : Int)) := zdv s _ _
theorem rlen_eq (n d : Nat) (b : Gk) (l : List Nat) (hl : Limbs l) (hn : 32 * l.length + 2 < n) (hlen : l.length ≤ 100000) : evalFn Tryz.prog cfg0 n (d+2) 112 [.tree (encL b l)] = some (.tree (.int .i64 ((blen (val l) : Nat) : Int)), [[]]) := by
  rw [evalFn_go _ Tryz.func112 (by unfold Tryz.f112; rfl) (by unfold Tryz.f112; decide) (Nat.le_of_ble_eq_true (by unfold Tryz.f112; rfl)) (by kernel_rfl)]
  have c1 := rnorm_call n d b l hl (by omega) (by omega)
  have hd := digs_len (val l) l.length (val_lt l hl)
  have hvd := val_digs (val l)
  have hdl := limbs_digs (val l)
  obtain ⟨m, hm⟩ : ∃ m, m = digs (val l) := ⟨_, rfl⟩
  have hF : encF (val l) = encL .l m := by rw [encF, hm]
  rw [← hm] at hd hvd hdl
  rw [hF] at c1
  have e1 := i_mul Tryz.prog 3 32 (m.length : Int) (by omega) (by omega)
  rw [show (32 : Int) * (m.length : Int) = ((32 * m.length : Nat) : Int) by omega] at e1
  simp only [simB, zbo, Nat.reduceBEq, own0, ↓reduceIte, Nat.reduceEqDiff, Nat.reduceAdd, env0, List.getElem?_cons_zero, List.getElem?_cons_succ, zdv, zdw, zdx, zdy, zdz, zea, zeb, zec, ia22, ld31, zed, zee, st0_1, c1, e1, den_loop]
  refine loop_ends (X := Nat) (fun k env s => env 3 = encL .l m ∧ env 4 = .int .i64 (k : Int) ∧ s = dead ∧ k ≤ 32 * m.length ∧ val l < 2 ^ k) id (fun _ => (.tree (.int .i64 ((blen (val l) : Nat) : Int)), [[]])) ?_ n (32 * m.length) _ _ (by simp only [id]; omega) ⟨rfl, rfl, rfl, Nat.le_refl _, by rw [← hvd, ← B_pow]; exact val_lt m hdl⟩
  intro k x hx ih env s ⟨h3, h4, hs, hk, hv⟩
  subst hs
  by_cases hp : x = 0
  · subst hp
    have q1 : ¬ (((0 : Nat) : Int) > 0) := by omega
    have hv0 : val l = 0 := by rw [Nat.pow_zero] at hv; omega
    simp only [simB, zbo, Nat.reduceBEq, own0, ↓reduceIte, Nat.reduceEqDiff, Nat.reduceAdd, zdv, zdw, zdx, zdy, zdz, zea, zeb, zec, ia22, ld31, zed, zee, h3, h4, q1]
    rw [hv0]
    exact finish_tree _ _ _ _ _ _ (.int .i64 ((0 : Nat) : Int)) _ _ (by simp only [zfp, ↓reduceIte]) rfl rfl
  · obtain ⟨y, rfl⟩ : ∃ y, x = y + 1 := ⟨x - 1, by omega⟩
    have p1 : ((y + 1 : Nat) : Int) > 0 := by omega
    have f1 : binA Tryz.prog .sub 3 (.int .i64 ((y + 1 : Nat) : Int)) (.int .i64 1) = some (.int .i64 (y : Int)) := by rw [i_sub _ _ _ _ (by omega) (by omega), show ((y + 1 : Nat) : Int) - 1 = (y : Int) by omega]
    have g1 := i_quo Tryz.prog 3 y 32 (by decide) (by omega)
    have g2 := i_rem Tryz.prog 3 y 32 (by decide)
    rw [show ((32 : Nat) : Int) = 32 from rfl] at g1 g2
    have p3 : ((y / 32 : Nat) : Int) < m.length := by omega
    have p4 : y / 32 < m.length := by omega
    have p7 : (0 : Int) ≤ ((y / 32 : Nat) : Int) := by omega
    have e10 : convA Tryz.prog 3 97 dead (.int .i64 ((y % 32 : Nat) : Int)) = some (.int .u64 ((y % 32 : Nat) : Int)) := conv3_42 dead _ (by omega)
    have hlw := getD_lt m hdl (y / 32)
    have g3 := s_shr Tryz.prog 57 (m.getD (y / 32) 0) .u64 ((y % 32 : Nat) : Int) (by omega) (by omega)
    rw [Int.toNat_natCast] at g3
    have g4 := s_and1 Tryz.prog 57 (m.getD (y / 32) 0 / 2 ^ (y % 32)) (Nat.lt_of_le_of_lt (Nat.div_le_self _ _) hlw)
    have hbl := bit_limb m hdl y
    rw [hvd] at hbl
    rw [hbl] at g4
    rw [pow1] at hv
    have h2p := Nat.two_pow_pos y
    have hq : val l / 2 ^ y < 2 := by rw [Nat.div_lt_iff_lt_mul h2p]; exact hv
    by_cases hz : val l / 2 ^ y % 2 = 0
    · have p5 : (((val l / 2 ^ y % 2 : Nat) : Int) == 0) = true := by rw [hz]; rfl
      simp only [simB, zbo, Nat.reduceBEq, own0, ↓reduceIte, Nat.reduceEqDiff, Nat.reduceAdd, zdv, zdw, zdx, zdy, zdz, zea, zeb, zec, ia22, ld31, zed, zee, h3, h4, p1, f1, g1, g2, p7, p3, p4, Int.toNat_natCast, e10, g3, g4, p5]
      refine ih y _ _ (Nat.lt_succ_self _) rfl ⟨?_, ?_, rfl, by omega, ?_⟩
      · simp only [zfp, ↓reduceIte, Nat.reduceEqDiff, h3]
      · simp only [zfp, ↓reduceIte, Nat.reduceEqDiff]
      · have h0 : val l / 2 ^ y = 0 := by
          clear g4 hbl
          generalize val l / 2 ^ y = qq at *
          omega
        rcases Nat.lt_or_ge (val l) (2 ^ y) with h | h
        · exact h
        · have := Nat.div_pos h h2p; omega
    · have p5 : (((val l / 2 ^ y % 2 : Nat) : Int) == 0) = false := by
        rw [beq_eq_false_iff_ne]
        clear g4 hbl
        generalize val l / 2 ^ y % 2 = bit at *
        omega
      simp only [simB, zbo, Nat.reduceBEq, own0, ↓reduceIte, Nat.reduceEqDiff, Nat.reduceAdd, zdv, zdw, zdx, zdy, zdz, zea, zeb, zec, ia22, ld31, zed, zee, h3, h4, p1, f1, g1, g2, p7, p3, p4, Int.toNat_natCast, e10, g3, g4, p5]
      have hge : 2 ^ y ≤ val l := by
        rcases Nat.lt_or_ge (val l) (2 ^ y) with h | h
        · rw [Nat.div_eq_of_lt h] at hz; exact absurd rfl hz
        · exact h
      rw [blen_of (val l) y hge (by rw [pow1]; exact hv)]
      exact finish_tree _ _ _ _ _ _ (.int .i64 ((y + 1 : Nat) : Int)) _ _ (by simp only [zfp, ↓reduceIte]) rfl rfl
end Go.Ab

/- The reference's Shl. Conditions: limbs in range, not too many. -/
namespace Go.Ab
open Go.Proofs
set_option maxRecDepth 100000
set_option linter.unusedSimpArgs false

theorem low_or (x c r : Nat) (hr : r < 32) (hc : c < 2 ^ r) : (c ||| x * 2 ^ r % 4294967296) = c + x * 2 ^ r % 4294967296 := by
  have e : x * 2 ^ r % 4294967296 = (x % 2 ^ (32 - r)) * 2 ^ r := by
    rw [show (4294967296 : Nat) = 2 ^ (32 - r) * 2 ^ r by rw [← Nat.pow_add, show 32 - r + r = 32 by omega], Nat.mul_mod_mul_right]
  rw [e]; exact shl_or _ _ _ hc
theorem digit_small (o : List Nat) (h : Limbs o) (j C : Nat) (hv : val o < B ^ j * C) : o.getD j 0 < C := by
  rw [← digit o h j]
  have : val o / B ^ j < C := by rw [Nat.div_lt_iff_lt_mul (Nat.pow_pos (by decide)), Nat.mul_comm]; exact hv
  exact Nat.lt_of_le_of_lt (Nat.mod_le _ _) this
theorem rshl_lt (a : List Nat) (ha : Limbs a) (w r i : Nat) : B ^ w * (2 ^ r * val (a.take i)) < B ^ (i + w) * 2 ^ r := by
  have h := val_take_lt a ha i
  rw [Nat.add_comm i w, Nat.pow_add, Nat.mul_assoc, Nat.mul_comm (B ^ i) (2 ^ r)]
  exact Nat.mul_lt_mul_of_pos_left (Nat.mul_lt_mul_of_pos_left h (Nat.two_pow_pos r)) (Nat.pow_pos (by decide))
theorem rshl_step (a o : List Nat) (w r i : Nat) (hl : i + w + 1 < o.length) (h0 : o.getD (i + w + 1) 0 = 0) (h : val o = B ^ w * (2 ^ r * val (a.take i))) :
    val ((o.set (i + w) (o.getD (i + w) 0 + a.getD i 0 * 2 ^ r % 4294967296)).set (i + w + 1) (a.getD i 0 * 2 ^ r / 4294967296)) = B ^ w * (2 ^ r * val (a.take (i + 1))) := by
  have h1 := val_set o (i + w) (o.getD (i + w) 0 + a.getD i 0 * 2 ^ r % 4294967296) (by omega)
  have h2 := val_set (o.set (i + w) (o.getD (i + w) 0 + a.getD i 0 * 2 ^ r % 4294967296)) (i + w + 1) (a.getD i 0 * 2 ^ r / 4294967296) (by rw [List.length_set]; exact hl)
  rw [getD_set_ne _ _ _ _ (by omega), h0, Nat.mul_zero, Nat.add_zero] at h2
  rw [Nat.mul_add] at h1
  rw [h2, val_take_succ']
  generalize a.getD i 0 = x at *
  have e : B ^ (i + w) * (x * 2 ^ r % 4294967296) + B ^ (i + w + 1) * (x * 2 ^ r / 4294967296) = B ^ (i + w) * (x * 2 ^ r) := by
    rw [Nat.pow_succ, Nat.mul_assoc, ← Nat.mul_add]
    have : x * 2 ^ r % 4294967296 + B * (x * 2 ^ r / 4294967296) = x * 2 ^ r := Nat.mod_add_div _ _
    rw [this]
  have e2 : B ^ w * (2 ^ r * (val (a.take i) + B ^ i * x)) = B ^ w * (2 ^ r * val (a.take i)) + B ^ (i + w) * (x * 2 ^ r) := by
    rw [Nat.mul_add, Nat.mul_add, Nat.add_comm i w, Nat.pow_add]
    congr 1
    rw [Nat.mul_assoc]
    congr 1
    rw [Nat.mul_comm (2 ^ r), Nat.mul_assoc]
  omega
theorem rshl_eq (n d : Nat) (b : Gk) (l : List Nat) (z : Int) (hl : Limbs l) (hn : l.length + 200 < n) (hll : l.length ≤ 100000) :
    evalFn Tryz.prog cfg0 n (d+2) 113 [.tree (encL b l), .tree (.int .i64 z)] = some (.tree (encF (val l * 2 ^ shn z)), [[], []]) := by
  rw [evalFn_go _ Tryz.func113 (by unfold Tryz.f113; rfl) (by unfold Tryz.f113; decide) (Nat.le_of_ble_eq_true (by unfold Tryz.f113; rfl)) (by kernel_rfl)]
  have a1 : foldA max2A (.int .i64 z) [.int .i64 0] = some (.int .i64 (if 0 > z then 0 else z)) := by
    simp only [foldA, max2A, Option.bind_some]
  have a2 : foldA min2A (.int .i64 (if 0 > z then 0 else z)) [.int .i64 4096] = some (.int .i64 ((shn z : Nat) : Int)) := by
    simp only [foldA, min2A, Option.bind_some, shn]
    congr 2
    split <;> split <;> (try split) <;> omega
  have hk : shn z ≤ 4096 := by simp only [shn]; split <;> omega
  generalize shn z = k at *
  have e1 := i_quo Tryz.prog 3 k 32 (by decide) (by omega)
  have e2 := i_rem Tryz.prog 3 k 32 (by decide)
  rw [show ((32 : Nat) : Int) = 32 from rfl] at e1 e2
  have hkw : k = 32 * (k / 32) + k % 32 := by omega
  have hw : k / 32 ≤ 128 := by omega
  have hr : k % 32 < 32 := by omega
  generalize k / 32 = w at *
  generalize k % 32 = r at *
  have e3 := i_add Tryz.prog 3 (l.length : Int) (w : Int) (by omega) (by omega)
  have e4 := i_add Tryz.prog 3 ((l.length : Int) + (w : Int)) 1 (by omega) (by omega)
  have e5 := make22 18 dead ((l.length : Int) + (w : Int) + 1) (by omega) (by omega)
  rw [show ((l.length : Int) + (w : Int) + 1).toNat = l.length + w + 1 by omega] at e5
  have e6 : (dead 18).t + 1 = 1 := rfl
  have e10 : ∀ s, convA Tryz.prog 3 97 s (.int .i64 (r : Int)) = some (.int .u64 (r : Int)) := fun s => conv3_42 s r (by omega)
  simp only [simB, zbo, Nat.reduceBEq, own0, ↓reduceIte, Nat.reduceEqDiff, Nat.reduceAdd, env0, List.getElem?_cons_zero, List.getElem?_cons_succ, zdv, zdw, zdx, zdy, zdz, zea, zeb, zec, ia22, ld31, zed, zee, st0_2, a1, a2, e1, e3, e4, e5, e6, den_loop]
  refine loop_ends (X := Nat × List Nat) (fun x env s => env 0 = encL b l ∧ env 5 = .int .i64 (k : Int) ∧ env 6 = .own 18 1 0 (l.length + w + 1) 1 ∧ env 7 = .int .i64 (x.1 : Int) ∧ s 18 = ⟨1, .buf (encC x.2)⟩ ∧ x.1 ≤ l.length ∧ x.2.length = l.length + w + 1 ∧ Limbs x.2 ∧ val x.2 = B ^ w * (2 ^ r * val (l.take x.1))) (fun x => l.length - x.1) (fun _ => (.tree (encF (val l * 2 ^ k)), [[], []])) ?_ n (0, List.replicate (l.length + w + 1) 0) _ _ (by simp only; omega) ⟨rfl, rfl, rfl, rfl, rfl, by simp, by simp, ?_, by simp [val, val_rep]⟩
  rotate_left
  · intro x hx; rw [List.eq_of_mem_replicate hx]; decide
  intro k' ⟨i, o⟩ hx ih env s ⟨h0, h5, h6, h7, hs, hi, hol, hoL, hv⟩
  simp only at h0 h5 h6 h7 hs hi hol hoL hv hx
  by_cases hp : i = l.length
  · subst hp
    have q1 : ¬ ((l.length : Int) < (l.length : Int)) := by omega
    obtain ⟨s9, e9⟩ := rnorm_hold n d s (.own 18 1 0 (l.length + w + 1) 1) o (.inr (.inr ⟨18, 1, by rw [hol], hs⟩)) hoL (by omega) (by omega) 70
    have hfin : val o = val l * 2 ^ k := by
      rw [hv, List.take_length, hkw, Nat.pow_add, ← B_pow, Nat.mul_comm (val l), Nat.mul_assoc]
    simp only [simB, zbo, Nat.reduceBEq, own0, ↓reduceIte, Nat.reduceEqDiff, Nat.reduceAdd, zdv, zdw, zdx, zdy, zdz, zea, zeb, zec, ia22, ld31, zed, zee, h0, h5, h6, h7, q1, e9]
    rw [hfin]
    exact finish_F _ _ _ _ _ _ _ (by simp only [zfp, ↓reduceIte]) rfl
  · have q1 : (i : Int) < (l.length : Int) := by omega
    have q2 : (0 : Int) ≤ (i : Int) := by omega
    have q3 : i < l.length := by omega
    have hx1 := getD_lt l hl i
    have hsm := digit_small o hoL (i + w) (2 ^ r) (by rw [hv]; exact rshl_lt l hl w r i)
    have hz0 : o.getD (i + w + 1) 0 = 0 := by
      refine digit_0 o hoL _ ?_
      rw [hv]
      refine Nat.lt_of_lt_of_le (rshl_lt l hl w r i) ?_
      rw [Nat.pow_succ]
      exact Nat.mul_le_mul_left _ (show 2 ^ r ≤ 2 ^ 32 from Nat.pow_le_pow_right (by decide) (by omega))
    have hst := rshl_step l o w r i (by omega) hz0 hv
    obtain ⟨hS, hC⟩ := shl_lt (l.getD i 0) 0 r hx1 hr (Nat.two_pow_pos r)
    rw [Nat.zero_add] at hS hC
    have hor := low_or (l.getD i 0) (o.getD (i + w) 0) r hr hsm
    have hlow := getD_lt o hoL (i + w)
    have f1 := u_shl Tryz.prog 96 (l.getD i 0) .u64 (r : Int) (by omega) (by omega)
    rw [Int.toNat_natCast, Nat.mod_eq_of_lt (by omega)] at f1
    generalize hgS : l.getD i 0 * 2 ^ r = S at *
    have hSB : S / 4294967296 < 4294967296 := by omega
    have f2 := s_or Tryz.prog 57 (o.getD (i + w) 0) (S % 4294967296) hlow (Nat.mod_lt _ (by decide))
    have hol2 : (o.getD (i + w) 0 ||| S % 4294967296) < 2 ^ 32 := Nat.or_lt_two_pow hlow (Nat.mod_lt _ (by decide))
    rw [hor] at f2 hol2
    have f3 := u_shr Tryz.prog 96 S .u64 32 (by decide) (by decide)
    rw [show (2 : Nat) ^ (32 : Int).toNat = 4294967296 from rfl] at f3
    have f4 := i_add Tryz.prog 3 (i : Int) 1 (by omega) (by omega)
    have f5 := i_add Tryz.prog 3 (i : Int) (w : Int) (by omega) (by omega)
    have f6 := i_add Tryz.prog 3 ((i : Int) + (w : Int)) 1 (by omega) (by omega)
    have g1 := ia_own s 18 1 _ (l.length + w + 1) .i64 ((i : Int) + (w : Int)) hs (by omega) (by omega)
    rw [show ((i : Int) + (w : Int)).toNat = i + w by omega] at g1
    have g2 := ld_own s 18 1 o (i + w) hs (by omega)
    have g3 := st31 s 18 1 _ (i + w) (o.getD (i + w) 0 + S % 4294967296) hs (by omega)
    have hs2 : (upd s 18 ⟨1, .buf (encC (o.set (i + w) (o.getD (i + w) 0 + S % 4294967296)))⟩) 18 = ⟨1, .buf (encC (o.set (i + w) (o.getD (i + w) 0 + S % 4294967296)))⟩ := upd_self _ _ _
    have g4 := ia_own _ 18 1 _ (l.length + w + 1) .i64 ((i : Int) + (w : Int) + 1) hs2 (by omega) (by omega)
    rw [show ((i : Int) + (w : Int) + 1).toNat = i + w + 1 by omega] at g4
    have g5 := ld_own _ 18 1 _ (i + w + 1) hs2 (by rw [List.length_set]; omega)
    rw [getD_set_ne _ _ _ _ (by omega), hz0] at g5
    have g6 := st31 _ 18 1 _ (i + w + 1) (S / 4294967296) hs2 (by rw [List.length_set]; omega)
    have f7 := s_or Tryz.prog 57 0 (S / 4294967296 % 4294967296) (by decide) (Nat.mod_lt _ (by decide))
    rw [Nat.zero_or, Nat.mod_eq_of_lt hSB] at f7
    simp only [simB, zbo, Nat.reduceBEq, own0, ↓reduceIte, Nat.reduceEqDiff, Nat.reduceAdd, zdv, zdw, zdx, zdy, zdz, zea, zeb, zec, ia22, ld31, zed, zee, h0, h5, h6, h7, q1, q2, q3, Int.toNat_natCast, hx1, e1, e2, e10, f1, f2, f3, f4, f5, f6, g1, g2, g3, g4, g5, g6, Nat.mod_eq_of_lt hSB, f7]
    refine ih (i + 1, (o.set (i + w) (o.getD (i + w) 0 + S % 4294967296)).set (i + w + 1) (S / 4294967296)) _ _ (by simp only; omega) rfl ⟨?_, ?_, ?_, ?_, ?_, ?_, ?_, ?_, hst⟩
    · simp only [zfp, ↓reduceIte, Nat.reduceEqDiff, h0]
    · simp only [zfp, ↓reduceIte, Nat.reduceEqDiff, h5]
    · simp only [zfp, ↓reduceIte, Nat.reduceEqDiff, h6]
    · simp only [zfp, ↓reduceIte, Nat.reduceEqDiff]; rfl
    · rw [upd_self]
    · simp only; omega
    · simp only [List.length_set]; exact hol
    · exact limbs_set _ (limbs_set _ hoL _ _ hol2) _ _ hSB
end Go.Ab

/- The reference's Div. Conditions: limbs in range, not too many. -/
namespace Go.Ab
open Go.Proofs
set_option maxRecDepth 100000
set_option linter.unusedSimpArgs false

theorem num_F (v k : Nat) (hk : k ≤ 1000) (h : v < B ^ k) : Num (encF v) v := ⟨_, sh_L _ _, limbs_digs v, Nat.le_trans (digs_len v k h) hk, val_digs v⟩
section
variable (n d : Nat) (hn : 100000 ≤ n) (D : Nat) (s : St)
include hn
theorem rcCmp {w w' : AV} {v v' : Nat} (h : Num w v) (h' : Num w' v') : callA cfg0 (evalFn Tryz.prog cfg0 n (d+2)) D s 70 [w, w'] = some (.int .i64 (cmpZ v v'), s) := by
  obtain ⟨l, hs, hl, hk, rfl⟩ := h
  obtain ⟨l', hs', hl', hk', rfl⟩ := h'
  exact callA_S2 _ D s 70 hs hs' _ fun b b' => rcmp_eq n d b b' l l' hl hl' (by omega) (by omega) (by omega) (by omega)
theorem rcAdd {w w' : AV} {v v' : Nat} (h : Num w v) (h' : Num w' v') : callA cfg0 (evalFn Tryz.prog cfg0 n (d+2)) D s 109 [w, w'] = some (encF (v + v'), s) := by
  obtain ⟨l, hs, hl, hk, rfl⟩ := h
  obtain ⟨l', hs', hl', hk', rfl⟩ := h'
  exact callA_S2 _ _ _ _ hs hs' _ fun b b' => radd_eq n d b b' l l' hl hl' (by omega) (by omega) (by omega) (by omega)
theorem rcSub {w w' : AV} {v v' : Nat} (h : Num w v) (h' : Num w' v') : callA cfg0 (evalFn Tryz.prog cfg0 n (d+3)) D s 110 [w, w'] = some (encS v v', s) := by
  obtain ⟨l, hs, hl, hk, rfl⟩ := h
  obtain ⟨l', hs', hl', hk', rfl⟩ := h'
  exact callA_S2 _ _ _ _ hs hs' _ fun b b' => rsub_eq n d b b' l l' hl hl' (by omega) (by omega) (by omega) (by omega)
theorem rcShl {w : AV} {v : Nat} (h : Num w v) (z : Int) : callA cfg0 (evalFn Tryz.prog cfg0 n (d+2)) D s 113 [w, .int .i64 z] = some (encF (v * 2 ^ shn z), s) := by
  obtain ⟨l, hs, hl, hk, rfl⟩ := h
  exact callA_Si _ _ _ _ hs _ _ _ fun b => rshl_eq n d b l z hl (by omega) (by omega)
theorem rcShr {w : AV} {v : Nat} (h : Num w v) (z : Int) (hz : z ≤ 9223372036854775807) : callA cfg0 (evalFn Tryz.prog cfg0 n (d+2)) D s 117 [w, .int .i64 z] = some (encF (v / 2 ^ z.toNat), s) := by
  obtain ⟨l, hs, hl, hk, rfl⟩ := h
  exact callA_Si _ _ _ _ hs _ _ _ fun b => rshr_eq n d b l z hl (by omega) (by omega) hz
theorem rcLen {w : AV} {v : Nat} (h : Num w v) : callA cfg0 (evalFn Tryz.prog cfg0 n (d+2)) D s 112 [w] = some (.int .i64 ((blen v : Nat) : Int), s) := by
  obtain ⟨l, hs, hl, hk, rfl⟩ := h
  exact callA_S1 _ D s 112 hs _ fun b => rlen_eq n d b l hl (by omega) (by omega)
end
end Go.Ab

/- The reference's numbers: what is a number, made of limbs, of ints; its compare. Conditions: limbs in range. -/
namespace Go.Ab
open Go.Proofs
set_option maxRecDepth 100000
set_option linter.unusedSimpArgs false

set_option maxHeartbeats 2000000 in
theorem ris_eq (n d : Nat) (neg : Bool) (g : Gk) (l : List Nat) (hl : Limbs l) : evalFn Tryz.prog cfg0 n (d+2) 69 [.tree (encA neg g l)] = some (.tree (canA (gz neg g l) (numZ neg l)), [[]]) := by
  rw [evalFn_go _ Tryz.func69 (by unfold Tryz.f69; rfl) (by unfold Tryz.f69; decide) (Nat.le_of_ble_eq_true (by unfold Tryz.f69; rfl)) (by kernel_rfl)]
  have c1 := fun D s => cRcheck n d neg g l hl D s
  cases h : chkN neg l with
  | false =>
    rw [canA_no h]
    simp only [simB, zbo, Nat.reduceBEq, own0, ↓reduceIte, Nat.reduceEqDiff, Nat.reduceAdd, env0, List.getElem?_cons_zero, List.getElem?_cons_succ, zdv, zdw, zdx, zdy, zdz, zea, zeb, zec, ia22, ld31, zed, zee, zef, zeg, zeh, zei, zej, zek, zel, zem, zen, zeo, zep, zeq, zer, fa_0, fa_1, zes, bd_0, bd_2, zet, fd_1, zeu, Nat.zero_add, st0_1, c1, h]
    exact finish_c _ _ 2 2 1 _ _ _ _ _ (by simp only [zfp, ↓reduceIte, Nat.reduceEqDiff]) (by simp only [zfp, ↓reduceIte, Nat.reduceEqDiff]) rfl
  | true =>
    rw [canA_of hl h]
    simp only [simB, zbo, Nat.reduceBEq, own0, ↓reduceIte, Nat.reduceEqDiff, Nat.reduceAdd, env0, List.getElem?_cons_zero, List.getElem?_cons_succ, zdv, zdw, zdx, zdy, zdz, zea, zeb, zec, ia22, ld31, zed, zee, zef, zeg, zeh, zei, zej, zek, zel, zem, zen, zeo, zep, zeq, zer, fa_0, fa_1, zes, bd_0, bd_2, zet, fd_1, zeu, Nat.zero_add, st0_1, c1, h]
    exact finish_c _ _ 2 2 1 _ _ _ _ _ (by simp only [zfp, ↓reduceIte, Nat.reduceEqDiff]) (by simp only [zfp, ↓reduceIte, Nat.reduceEqDiff]) rfl
theorem cRis (n d : Nat) {w : AV} {z : Int} (h : IsN w z) : ∃ g, ∀ D s, callA cfg0 (evalFn Tryz.prog cfg0 n (d+2)) D s 69 [w] = some (canA g z, s) := by
  obtain ⟨neg, g, l, rfl, hl, rfl⟩ := h
  exact ⟨_, fun D s => callA_trees rfl (ris_eq n d neg g l hl)⟩
theorem qRis (n d : Nat) {w : AV} {z : Int} (h : IsN w z) : ∃ g, callQ (evalFn Tryz.prog cfg0 n (d+2)) 69 [w] = some (canA g z) := by
  obtain ⟨neg, g, l, rfl, hl, rfl⟩ := h
  exact ⟨_, callQ_trees rfl (ris_eq n d neg g l hl)⟩
def gm (z : Int) : Gk := if z.natAbs < B ^ 12 then .l else .n
def madeF (z : Int) : AV := .tup [canA (gm z) (mkZ z).1, .bool (mkZ z).2]
theorem madeF_fit {z : Int} (h : z.natAbs < B ^ 12) : madeF z = .tup [canA .l z, .bool true] := by rw [madeF, mkZ_fit h, gm, if_pos h]
theorem lenF' (s : St) (v : Nat) : lenA Tryz.prog 25 s (encF v) = some (.int .i64 ((digs v).length : Int)) := zdv s _ _
theorem bd_2F (b : Bool) (v : Nat) : buildA Tryz.prog 27 [(0, .bool b), (1, encF v)] = some (.agg [.bool b, encF v]) := bd_2 _ _ _
set_option maxHeartbeats 2000000 in
theorem rmade_eq (n d : Nat) (neg : Bool) (g : Gk) (l : List Nat) (hl : Limbs l) (hn : l.length < n) (hk : l.length ≤ 1000000) : evalFn Tryz.prog cfg0 n (d+2) 82 [.tree (.bool neg), .tree (encL g l)] = some (.tree (madeF (sgn neg (val l))), [[], []]) := by
  rw [evalFn_go _ Tryz.func82 (by unfold Tryz.f82; rfl) (by unfold Tryz.f82; decide) (Nat.le_of_ble_eq_true (by unfold Tryz.f82; rfl)) (by kernel_rfl)]
  have c1 := fun D s => callA_L1 (evalFn Tryz.prog cfg0 n (d+1)) D s 111 g l _ (rnorm_eq n d g l hl hn hk)
  generalize hv : val l = v at *
  have hp : (((digs v).length : Nat) : Int) > 0 ↔ v ≠ 0 := by
    have := digs_len0 v
    omega
  have hd : decide ((((digs v).length : Nat) : Int) > 0) = decide (v ≠ 0) := by
    rw [decide_eq_decide]; exact hp
  have hm : mkZ (sgn neg v) = if v < B ^ 12 then (sgn neg v, true) else (0, false) := by rw [mkZ, sgn_abs]
  by_cases hf : v < B ^ 12
  · have hlen : ¬ (((digs v).length : Nat) : Int) > 12 := by have := digs_len v 12 hf; omega
    rw [madeF_fit (by rw [sgn_abs]; exact hf)]
    have he : (.agg [.bool (neg && decide (v ≠ 0)), encF v] : AV) = canA .l (sgn neg v) := by
      unfold canA; rw [sgn_neg, sgn_abs]; rfl
    rw [← he]
    cases neg with
    | false =>
      simp only [simB, zbo, Nat.reduceBEq, own0, ↓reduceIte, Nat.reduceEqDiff, Nat.reduceAdd, env0, List.getElem?_cons_zero, List.getElem?_cons_succ, zdv, zdw, zdx, zdy, zdz, zea, zeb, zec, ia22, ld31, zed, zee, zef, zeg, zeh, zei, zej, zek, zel, zem, zen, zeo, zep, zeq, zer, fa_0, fa_1, zes, bd_0, bd_2, zet, fd_1, zeu, Nat.zero_add, st0_2, c1, lenF', hlen, bd_2F]
      exact finish_ct _ _ 4 4 1 _ _ _ _ _ _ _ (by simp only [zfp, ↓reduceIte, Nat.reduceEqDiff]) (by simp only [zfp, ↓reduceIte, Nat.reduceEqDiff]) (by simp only [zfp, ↓reduceIte, Nat.reduceEqDiff]) rfl
    | true =>
      simp only [simB, zbo, Nat.reduceBEq, own0, ↓reduceIte, Nat.reduceEqDiff, Nat.reduceAdd, env0, List.getElem?_cons_zero, List.getElem?_cons_succ, zdv, zdw, zdx, zdy, zdz, zea, zeb, zec, ia22, ld31, zed, zee, zef, zeg, zeh, zei, zej, zek, zel, zem, zen, zeo, zep, zeq, zer, fa_0, fa_1, zes, bd_0, bd_2, zet, fd_1, zeu, Nat.zero_add, st0_2, c1, lenF', hlen, hd, bd_2F]
      exact finish_ct _ _ 4 4 1 _ _ _ _ _ _ _ (by simp only [zfp, ↓reduceIte, Nat.reduceEqDiff]) (by simp only [zfp, ↓reduceIte, Nat.reduceEqDiff]) (by simp only [zfp, ↓reduceIte, Nat.reduceEqDiff]) rfl
  · have hlen : (((digs v).length : Nat) : Int) > 12 := by
      have h1 := val_lt (digs v) (limbs_digs v)
      rw [val_digs] at h1
      rcases Nat.lt_or_ge 12 (digs v).length with h2 | h2
      · omega
      · exact absurd (Nat.lt_of_lt_of_le h1 (Nat.pow_le_pow_right (by decide) h2)) hf
    have he : madeF (sgn neg v) = .tup [encA false .n [], .bool false] := by
      rw [madeF, hm, if_neg hf, gm, if_neg (by rw [sgn_abs]; exact hf)]
      simp [canA, digs_0]
    rw [he]
    simp only [simB, zbo, Nat.reduceBEq, own0, ↓reduceIte, Nat.reduceEqDiff, Nat.reduceAdd, env0, List.getElem?_cons_zero, List.getElem?_cons_succ, zdv, zdw, zdx, zdy, zdz, zea, zeb, zec, ia22, ld31, zed, zee, zef, zeg, zeh, zei, zej, zek, zel, zem, zen, zeo, zep, zeq, zer, fa_0, fa_1, zes, bd_0, bd_2, zet, fd_1, zeu, Nat.zero_add, st0_2, c1, lenF', hlen]
    exact finish_ct _ _ 4 4 1 _ _ _ _ _ _ _ (by simp only [zfp, ↓reduceIte, Nat.reduceEqDiff]) (by simp only [zfp, ↓reduceIte, Nat.reduceEqDiff]) (by simp only [zfp, ↓reduceIte, Nat.reduceEqDiff]) rfl
section
variable (n d : Nat) (hn : 100000 ≤ n) (D : Nat) (s : St)
include hn
theorem cRmade {w : AV} {v : Nat} (h : Num w v) (neg : Bool) : callA cfg0 (evalFn Tryz.prog cfg0 n (d+2)) D s 82 [.bool neg, w] = some (madeF (sgn neg v), s) := by
  obtain ⟨l, hs, hl, hk, rfl⟩ := h
  exact callA_bS _ D s _ hs neg _ fun g => rmade_eq n d neg g l hl (by omega) (by omega)
theorem qRmade {w : AV} {v : Nat} (h : Num w v) (ht : isTree w = true) (neg : Bool) : callQ (evalFn Tryz.prog cfg0 n (d+2)) 82 [.bool neg, w] = some (madeF (sgn neg v)) := by
  obtain ⟨g, l, rfl, hl, hk, rfl⟩ := h.isL ht
  exact callQ_trees (by cases g <;> rfl) (rmade_eq n d neg g l hl (by omega) (by omega))
end
set_option maxHeartbeats 2000000 in
theorem rof64_eq (n d : Nat) (hn : 100000 ≤ n) (z : Int) (h : -9223372036854775808 ≤ z) (h' : z ≤ 9223372036854775807) : evalFn Tryz.prog cfg0 n (d+3) 89 [.tree (.int .i64 z)] = some (.tree (canA .l z), [[]]) := by
  rw [evalFn_go _ Tryz.func89 (by unfold Tryz.f89; rfl) (by unfold Tryz.f89; decide) (Nat.le_of_ble_eq_true (by unfold Tryz.f89; rfl)) (by kernel_rfl)]
  have hz : z.natAbs ≤ 9223372036854775808 := by omega
  have hfit : z.natAbs < B ^ 12 := by have := B12_big; omega
  have c0 := fun s => conv3_55 s z h h'
  have key : ∀ (x : Nat), x = z.natAbs → x < 18446744073709551616 →
      (∀ s, convA Tryz.prog 96 57 s (.int .u64 (x : Int)) = some (.int .u32 ((x % 4294967296 : Nat) : Int))) ∧
      binA Tryz.prog .shr 96 (.int .u64 (x : Int)) (.int .u64 32) = some (.int .u64 ((x / 4294967296 : Nat) : Int)) ∧
      (∀ s, convA Tryz.prog 96 57 s (.int .u64 ((x / 4294967296 : Nat) : Int)) = some (.int .u32 ((x / 4294967296 % 4294967296 : Nat) : Int))) ∧
      (∀ D s, callA cfg0 (evalFn Tryz.prog cfg0 n (d+2)) D s 82 [.bool (decide (z < 0)), .sl [.int .u32 ((x % 4294967296 : Nat) : Int), .int .u32 ((x / 4294967296 % 4294967296 : Nat) : Int)] 2 .tight] = some (.tup [canA .l z, .bool true], s)) := by
    intro x hx hlt
    refine ⟨fun s => zee s x, ?_, fun s => zee s _, fun D s => ?_⟩
    · have := u_shr Tryz.prog 96 x .u64 32 (by decide) (by decide)
      rw [show (2 : Nat) ^ (32 : Int).toNat = 4294967296 from rfl] at this
      exact this
    · have hnum : Num (.sl [.int .u32 ((x % 4294967296 : Nat) : Int), .int .u32 ((x / 4294967296 % 4294967296 : Nat) : Int)] 2 .tight) x := by
        refine ⟨[x % 4294967296, x / 4294967296 % 4294967296], ⟨_, rfl⟩, limbs_cons (Nat.mod_lt _ (by decide)) (limbs_one (Nat.mod_lt _ (by decide))), by simp, ?_⟩
        show x % 4294967296 + 4294967296 * (x / 4294967296 % 4294967296 + 4294967296 * 0) = x
        omega
      have := cRmade n d hn D s hnum (decide (z < 0))
      rw [hx, sgn_of, madeF_fit hfit] at this
      rw [hx]; exact this
  by_cases hneg : z < 0
  · rw [if_pos hneg] at c0
    have u := un_neg64 (18446744073709551616 - z.natAbs) (by omega)
    rw [show (18446744073709551616 - (18446744073709551616 - z.natAbs)) % 18446744073709551616 = z.natAbs by omega] at u
    obtain ⟨k1, k2, k3, k4⟩ := key z.natAbs rfl (by omega)
    rw [decide_eq_true hneg] at k4
    simp only [simB, zbo, Nat.reduceBEq, own0, ↓reduceIte, Nat.reduceEqDiff, Nat.reduceAdd, env0, List.getElem?_cons_zero, List.getElem?_cons_succ, zdv, zdw, zdx, zdy, zdz, zea, zeb, zec, ia22, ld31, zed, zee, zef, zeg, zeh, zei, zej, zek, zel, zem, zen, zeo, zep, zeq, zer, fa_0, fa_1, zes, bd_0, bd_2, zet, fd_1, zeu, Nat.zero_add, st0_1, c0, hneg, u, k1, k2, k3, opA_two, two22_int, k4, ext_0, ext_1, zeq]
    exact finish_c _ _ 2 2 1 _ _ _ _ _ (by simp only [zfp, ↓reduceIte, Nat.reduceEqDiff]) (by simp only [zfp, ↓reduceIte, Nat.reduceEqDiff, hneg, decide_true, decide_false]) rfl
  · rw [if_neg hneg] at c0
    obtain ⟨k1, k2, k3, k4⟩ := key z.natAbs rfl (by omega)
    rw [decide_eq_false hneg] at k4
    simp only [simB, zbo, Nat.reduceBEq, own0, ↓reduceIte, Nat.reduceEqDiff, Nat.reduceAdd, env0, List.getElem?_cons_zero, List.getElem?_cons_succ, zdv, zdw, zdx, zdy, zdz, zea, zeb, zec, ia22, ld31, zed, zee, zef, zeg, zeh, zei, zej, zek, zel, zem, zen, zeo, zep, zeq, zer, fa_0, fa_1, zes, bd_0, bd_2, zet, fd_1, zeu, Nat.zero_add, st0_1, c0, hneg, k1, k2, k3, opA_two, two22_int, k4, ext_0, ext_1, zeq]
    exact finish_c _ _ 2 2 1 _ _ _ _ _ (by simp only [zfp, ↓reduceIte, Nat.reduceEqDiff]) (by simp only [zfp, ↓reduceIte, Nat.reduceEqDiff, hneg, decide_true, decide_false]) rfl
theorem cRof64 (n d : Nat) (hn : 100000 ≤ n) (z : Int) (h : -9223372036854775808 ≤ z) (h' : z ≤ 9223372036854775807) (D : Nat) (s : St) : callA cfg0 (evalFn Tryz.prog cfg0 n (d+3)) D s 89 [.int .i64 z] = some (canA .l z, s) :=
  callA_trees rfl (rof64_eq n d hn z h h')

end Go.Ab

/- Small Ints as terms; rows and lists of them, compared. Conditions: numbers that Go has. -/
namespace Go.Ab
open Go.Proofs
set_option maxRecDepth 100000
set_option linter.unusedSimpArgs false

def I64 (v : Int) : Prop := -9223372036854775808 ≤ v ∧ v ≤ 9223372036854775807
def intT (v : Int) : T := .mk 1 (decide (v < 0)) .l (digs v.natAbs) [] 0 .n []
def nilT' : T := .mk 3 false .n [] [] 0 .n []
def tupT (kg : Gk) (us : List T) : T := .mk 5 false .n [] [] 0 kg us
theorem rInt_eq (n d : Nat) (hn : 100000 ≤ n) (v : Int) (h : I64 v) : evalFn Tryz.prog cfg0 n (d+4) 54 [.tree (.int .i64 v)] = some (.tree (encT (intT v)), [[]]) := by
  rw [evalFn_go _ Tryz.func54 (by unfold Tryz.f54; rfl) (by unfold Tryz.f54; decide) (Nat.le_of_ble_eq_true (by unfold Tryz.f54; rfl)) (by kernel_rfl)]
  have c1 := fun D st => cRof64 n d hn v h.1 h.2 D st
  have b1 := bdT_1 1 (decide (v < 0)) .l (digs v.natAbs)
  have st1 := fun st p k => st_Tt st p k (intT v)
  simp only [intT, cellsT, encC, List.map_nil, cellsK, List.length_nil, gr] at st1
  simp only [simB, zbo, Nat.reduceBEq, own0, ↓reduceIte, Nat.reduceEqDiff, Nat.reduceAdd, env0, List.getElem?_cons_zero, List.getElem?_cons_succ, zdv, zdw, zdx, zdy, zdz, zea, zeb, zec, ia22, ld31, zed, zee, zef, zeg, zeh, zei, zej, zek, zel, zem, zen, zeo, zep, zeq, zer, fa_0, fa_1, zes, bd_0, bd_2, zet, fd_1, zeu, Nat.zero_add, zeroT, c1, canA, encA, b1, st1]
  have st6 := fun t k p st => stT_6 t k p st (.int .i64 0) (.bool false) (.sl [] 0 .nil) (.str []) (.int .i64 0) (.sl [] 0 .nil) (intT v)
  simp only [intT, cellsT, encC, List.map_nil, cellsK, List.length_nil, gr] at st6
  simp only [simB, zbo, Nat.reduceBEq, own0, ↓reduceIte, Nat.reduceEqDiff, Nat.reduceAdd, env0, List.getElem?_cons_zero, List.getElem?_cons_succ, zdv, zdw, zdx, zdy, zdz, zea, zeb, zec, ia22, ld31, zed, zee, zef, zeg, zeh, zei, zej, zek, zel, zem, zen, zeo, zep, zeq, zer, fa_0, fa_1, zes, bd_0, bd_2, zet, fd_1, zeu, Nat.zero_add, st6]
  exact finish_cT _ _ _ _ _ (intT v) _ _ _ (by first | (simp only [zfp, ↓reduceIte, Nat.reduceEqDiff]; done) | (simp only [zfp, ↓reduceIte, Nat.reduceEqDiff]; rfl)) (by simp only [intT, cellsT, encC, List.map_nil, cellsK, List.length_nil, gr]; exact (by first | (simp only [zfp, ↓reduceIte, Nat.reduceEqDiff]; done) | (simp only [zfp, ↓reduceIte, Nat.reduceEqDiff]; rfl))) rfl
/-! ### Compared -/
end Go.Ab

/- The statement TermTuples. Conditions: numbers that Go has. -/
namespace Go.Ab
open Go.Proofs
set_option maxRecDepth 100000
set_option linter.unusedSimpArgs false

def intsA (xs : List Int) : List AV := xs.map (AV.int .i64)
theorem ldInts (xs : List Int) (i : Nat) (h : i < xs.length) (st : St) : loadA Tryz.prog 3 st (.rptr ((intsA xs).drop i)) = some (.int .i64 xs[i]) := by
  have e : (intsA xs).drop i = .int .i64 xs[i] :: (intsA xs).drop (i + 1) := by
    rw [List.drop_eq_getElem_cons (by simpa [intsA] using h)]
    simp [intsA]
  rw [e]
  exact ld33 st _ _
theorem bs1T (e : T) : (fillA (fun i => some (i * 6, 6)) (rep 1 zeroT6) [(0, .agg (cellsT e))]).map (AV.sl · 1 .tight) = some (.sl (cellsT e) 1 .tight) := by
  have h := cellsT_len e
  have a1 : splice (rep 1 zeroT6) (0 * 6) (cellsT e) = cellsT e := by
    simp only [splice, Nat.zero_mul, List.take_zero, List.nil_append, Nat.zero_add, h]; exact List.append_nil _
  simp only [fillA, settled, Option.bind_some, cellsOf]
  rw [if_pos ⟨h, by decide⟩, a1]
  rfl
theorem opA_bs1 (call : FuncId → List Arg → Option Out) (q : Bool) (d : Option Tmp) (ty : TypeId) (pos : String) (af : Array Edge) (g : Option (Nat × Bool)) (t : Nat) (env : Env) (s : St) (x : Operand) (e : T) (hx : ev env x = .agg (cellsT e)) :
    opA Tryz.prog cfg0 call q ⟨d, .buildSlice 22 1 #[(0, x)], ty, pos, af, g⟩ t env s = some (.sl (cellsT e) 1 .tight, s) := by
  simp only [opA, tkTk, eszT, zeroT, Option.bind_some, List.map_cons, List.map_nil, hx]
  rw [if_pos ⟨by rfl, by decide⟩]
  show Option.map _ (Option.map _ (fillA (fun i => some (i * 6, 6)) (rep 1 zeroT6) [(0, .agg (cellsT e))])) = _
  have := bs1T e
  rw [this]; rfl
/-- A row that was made, in a term, in a list: what a region that draws its order makes of it. -/
theorem Ap.tup {s : St} {d : Nat} {x : AV} {us : List T} (h : Ap s d x us) : buildA Tryz.prog 29 [(0, .int .i64 5), (4, x)] = some (.agg (cellsT (tupT (kgOf us) us))) := by
  have hs := h.settled
  simp only [buildA, zeroT, tkT, plT, Option.bind_some, fillA, List.getElem?_cons_zero, List.getElem?_cons_succ, hs]
  simp only [tupT, cellsT, encL, encC, List.map_nil, List.length_nil, gr]
  rfl
theorem Ap.list {s : St} {d : Nat} {x : AV} {us : List T} (h : Ap s d x us) (hl : us.length ≤ 1000000) (R D : Nat) : callQ (evalFn Tryz.prog cfg0 R (D+1)) 91 [x, encT nilT'] = some (encT (listT us nilT')) := by
  rcases h with ⟨rfl, rfl⟩ | ⟨_, t, rfl, _⟩
  · exact callQ_trees (vs := [.sl [] 0 .nil, encT nilT']) rfl (tList_eq R D [] .nil nilT' (by decide))
  · exact callQ_loose (vs := [.sl (cellsK us) us.length (.tok d t), encT nilT']) rfl rfl rfl (tList_eq R D us .loose nilT' (by omega))

section
variable (R : Nat) (hR : 100000 ≤ R) (xs ys : List Int) (hx : ∀ x ∈ xs, I64 x) (hy : ∀ x ∈ ys, I64 x) (hxk : xs.length ≤ 30) (hyk : ys.length ≤ 30) (gx gy : Grip) (x5 x6 : AV) (s1 s2 : St) (ap : Ap s1 36 x5 (xs.map intT)) (ap2 : Ap s2 50 x6 (ys.map intT))
include hR hx hy hxk hyk ap ap2
end
end Go.Ab

/- Light terms; the items of a list. Conditions: lengths in range. -/
namespace Go.Ab
open Go.Proofs
set_option maxRecDepth 100000
set_option linter.unusedSimpArgs false

/-! ### Light -/
mutual
def lgT : T → Int → Int
  | .mk _ _ _ l s _ _ ks, n => if (l.length : Int) > 40 ∨ (s.length : Int) > 500 then -1 else lgK ks (n - 1)
def lgK : List T → Int → Int
  | [], n => n
  | t :: r, n => if n ≥ 0 then lgK r (lgT t n) else n
end
mutual
theorem lgT_lt : ∀ (t : T) (n : Int), 0 ≤ n → -1 ≤ lgT t n ∧ lgT t n ≤ n - 1
  | .mk _ _ _ l s _ _ ks, n, h => by
    simp only [lgT]
    split
    · omega
    · by_cases h1 : 0 ≤ n - 1
      · have := lgK_le ks (n - 1) (by omega); omega
      · have h2 : n - 1 = -1 := by omega
        rw [h2]
        cases ks with
        | nil => simp only [lgK]; omega
        | cons a r => simp only [lgK]; rw [if_neg (by omega)]; omega
theorem lgK_le : ∀ (ks : List T) (n : Int), -1 ≤ n → -1 ≤ lgK ks n ∧ lgK ks n ≤ n
  | [], n, h => by simp only [lgK]; omega
  | t :: r, n, h => by
    simp only [lgK]
    split
    · rename_i h0
      have h1 := lgT_lt t n h0
      have h2 := lgK_le r (lgT t n) h1.1
      omega
    · omega
end
mutual
/-- No numbers, no texts that are long. -/
def leanT : T → Prop
  | .mk _ _ _ l s _ _ ks => l.length ≤ 40 ∧ s.length ≤ 500 ∧ leanK ks
def leanK : List T → Prop
  | [] => True
  | t :: r => leanT t ∧ leanK r
end
mutual
theorem lgT_ok : ∀ (t : T) (n : Int), 0 ≤ lgT t n → leanT t ∧ lgT t n = n - nodT t
  | .mk _ _ _ l s _ _ ks, n, h => by
    simp only [lgT] at h ⊢
    split at h
    · omega
    · rename_i hc
      rw [if_neg hc]
      obtain ⟨h1, h2⟩ := lgK_ok ks (n - 1) h
      simp only [leanT, nodT]
      exact ⟨⟨by omega, by omega, h1⟩, by omega⟩
theorem lgK_ok : ∀ (ks : List T) (n : Int), 0 ≤ lgK ks n → leanK ks ∧ lgK ks n = n - nodK ks
  | [], n, h => by simp only [lgK, leanK, nodK]; exact ⟨trivial, by omega⟩
  | t :: r, n, h => by
    simp only [lgK] at h ⊢
    split at h
    · rename_i h0
      rw [if_pos h0]
      obtain ⟨h1, h2⟩ := lgK_ok r (lgT t n) h
      have h3 := nodK_nn r
      obtain ⟨h4, h5⟩ := lgT_ok t n (by omega)
      simp only [leanK, nodK]
      exact ⟨⟨h4, h1⟩, by omega⟩
    · omega
theorem nodK_nn (r : List T) : (0 : Int) ≤ nodK r := by omega
end
set_option maxHeartbeats 8000000 in
theorem light_eq (R : Nat) (hR : 2000 ≤ R) (hR2 : R ≤ 9223372036854775808) : ∀ (d : Nat) (t : T) (n : Int), 0 ≤ n → n < 1000 → n + 2 ≤ (d : Int) → bigT R t → fewT R t →
    evalFn Tryz.prog cfg0 R d 60 [.tree (encT t), .tree (.int .i64 n)] = some (.tree (.int .i64 (lgT t n)), [[], []])
  | 0, t, n, h0, _, hd, _, _ => by omega
  | d + 1, t, n, h0, h1, hd, hb, hf => by
    have IH := light_eq R hR hR2 d
    obtain ⟨k, b, lg, l, s, m, kg, ks⟩ := t
    simp only [bigT] at hb
    simp only [fewT] at hf
    rw [evalFn_go _ Tryz.func60 (by unfold Tryz.f60; rfl) (by unfold Tryz.f60; decide) (Nat.le_of_ble_eq_true (by unfold Tryz.f60; rfl)) (by kernel_rfl)]
    have f0 := i_sub Tryz.prog 3 n 1 (by omega) (by omega)
    have ll := len23
    by_cases c1 : (l.length : Int) > 40
    · have hr : lgT (.mk k b lg l s m kg ks) n = -1 := by simp only [lgT]; rw [if_pos (.inl c1)]
      rw [hr]
      simp only [simB, zbo, Nat.reduceBEq, own0, ↓reduceIte, Nat.reduceEqDiff, Nat.reduceAdd, env0, List.getElem?_cons_zero, List.getElem?_cons_succ, zdv, zdw, zdx, zdy, zdz, zea, zeb, zec, ia22, ld31, zed, zee, zef, zeg, zeh, zei, zej, zek, zel, zem, zen, zeo, zep, zeq, zer, fa_0, fa_1, zes, bd_0, bd_2, zet, fd_1, zeu, Nat.zero_add, zev, List.toList_toArray, len9, ix9, zew, zex, zey, zez, zfa, encT, cellsT, f0, faT_1, faT_2, faT_4, faN_1, ldT_2, ldT_4, ldT_l, ll, c1, Nat.reduceAdd]
      exact finish_i _ _ _ _ _ _ _ (by first | (simp only [zfp, ↓reduceIte, Nat.reduceEqDiff]; done) | (simp only [zfp, ↓reduceIte, Nat.reduceEqDiff]; rfl)) rfl
    by_cases c2 : (s.length : Int) > 500
    · have hr : lgT (.mk k b lg l s m kg ks) n = -1 := by simp only [lgT]; rw [if_pos (.inr c2)]
      rw [hr]
      simp only [simB, zbo, Nat.reduceBEq, own0, ↓reduceIte, Nat.reduceEqDiff, Nat.reduceAdd, env0, List.getElem?_cons_zero, List.getElem?_cons_succ, zdv, zdw, zdx, zdy, zdz, zea, zeb, zec, ia22, ld31, zed, zee, zef, zeg, zeh, zei, zej, zek, zel, zem, zen, zeo, zep, zeq, zer, fa_0, fa_1, zes, bd_0, bd_2, zet, fd_1, zeu, Nat.zero_add, zev, List.toList_toArray, len9, ix9, zew, zex, zey, zez, zfa, encT, cellsT, f0, faT_1, faT_2, faT_4, faN_1, ldT_2, ldT_4, ldT_l, ll, c1, c2, Nat.reduceAdd]
      exact finish_i _ _ _ _ _ _ _ (by first | (simp only [zfp, ↓reduceIte, Nat.reduceEqDiff]; done) | (simp only [zfp, ↓reduceIte, Nat.reduceEqDiff]; rfl)) rfl
    have hr : lgT (.mk k b lg l s m kg ks) n = lgK ks (n - 1) := by simp only [lgT]; rw [if_neg (by omega)]
    rw [hr]
    simp only [simB, zbo, Nat.reduceBEq, own0, ↓reduceIte, Nat.reduceEqDiff, Nat.reduceAdd, env0, List.getElem?_cons_zero, List.getElem?_cons_succ, zdv, zdw, zdx, zdy, zdz, zea, zeb, zec, ia22, ld31, zed, zee, zef, zeg, zeh, zei, zej, zek, zel, zem, zen, zeo, zep, zeq, zer, fa_0, fa_1, zes, bd_0, bd_2, zet, fd_1, zeu, Nat.zero_add, zev, List.toList_toArray, len9, ix9, zew, zex, zey, zez, zfa, encT, cellsT, f0, faT_1, faT_2, faT_4, faN_1, ldT_2, ldT_4, ldT_l, ll, c1, c2, Nat.reduceAdd, den_loop]
    refine loop_ends (X := Nat × Int) (fun x env s' => env 2 = .ptr 2 1 0 ∧ s' 2 = ⟨1, .buf (cellsT (.mk k b lg l s m kg ks))⟩ ∧ env 1 = .int .i64 x.2 ∧ env 5 = .int .i64 (x.1 : Int) ∧ x.1 ≤ ks.length ∧ -1 ≤ x.2 ∧ x.2 ≤ n - 1 ∧ lgK ks (n - 1) = lgK (ks.drop x.1) x.2) (fun x => (x.2 + 1).toNat) (fun _ => (.tree (.int .i64 (lgK ks (n - 1))), [[], []])) ?_ R (0, n - 1) _ _ (by simp only; omega) ⟨(by first | (simp only [zfp, ↓reduceIte, Nat.reduceEqDiff]; done) | (simp only [zfp, ↓reduceIte, Nat.reduceEqDiff]; rfl)), (by first | (simp only [zfp, ↓reduceIte, Nat.reduceEqDiff]; done) | (simp only [zfp, ↓reduceIte, Nat.reduceEqDiff]; rfl)), (by first | (simp only [zfp, ↓reduceIte, Nat.reduceEqDiff]; done) | (simp only [zfp, ↓reduceIte, Nat.reduceEqDiff]; rfl)), (by first | (simp only [zfp, ↓reduceIte, Nat.reduceEqDiff]; done) | (simp only [zfp, ↓reduceIte, Nat.reduceEqDiff]; rfl)), Nat.zero_le _, by simp only; omega, by simp only; omega, rfl⟩
    rintro rr ⟨i, v⟩ hrr ih2 env st ⟨e2, j2, e1, e5, hi, hv0, hv1, hk⟩
    simp only at e1 e5 hi hv0 hv1 hk hrr
    simp only [cellsT] at j2
    cases hdr : ks.drop i with
    | nil =>
      have hil : i = ks.length := by have := congrArg List.length hdr; simp only [List.length_drop, List.length_nil] at this; omega
      subst hil
      rw [hdr] at hk
      simp only [lgK] at hk
      rw [hk]
      have q1 : ¬ ((ks.length : Int) < (ks.length : Int)) := by omega
      simp only [simB, zbo, Nat.reduceBEq, own0, ↓reduceIte, Nat.reduceEqDiff, Nat.reduceAdd, zdv, zdw, zdx, zdy, zdz, zea, zeb, zec, ia22, ld31, zed, zee, zef, zeg, zeh, zei, zej, zek, zel, zem, zen, zeo, zep, zeq, zer, fa_0, fa_1, zes, bd_0, bd_2, zet, fd_1, zeu, Nat.zero_add, e2, j2, e1, e5, faT_4, ldT_4, lenTk, q1]
      exact finish_i _ _ _ _ _ _ _ (by first | (simp only [zfp, ↓reduceIte, Nat.reduceEqDiff]; done) | (simp only [zfp, ↓reduceIte, Nat.reduceEqDiff]; rfl)) rfl
    | cons kid r =>
      have hil : i < ks.length := by have := congrArg List.length hdr; simp only [List.length_drop, List.length_cons] at this; omega
      have q1 : (i : Int) < (ks.length : Int) := by omega
      rw [hdr] at hk
      simp only [lgK] at hk
      by_cases q2 : v ≥ 0
      · rw [if_pos q2] at hk
        have hbk := bigK_at R ks i kid r hdr hb.2.2
        have hfk := fewK_at R ks i kid r hdr hf.2.2
        have cc := fun D st => callA_trees (cfg := cfg0) (d := D) (s := st) (f := 60) (vs := [encT kid, .int .i64 v]) rfl (IH kid v q2 (by omega) (by omega) hbk hfk)
        simp only [encT] at cc
        have ia := fun st => ia_K st ks (gr kg) i hil
        rw [hdr] at ia
        have ld := fun st => ld_K st kid r
        simp only [encT] at ld
        have f5 := i_add Tryz.prog 3 (i : Int) 1 (by omega) (by omega)
        have hl := lgT_lt kid v q2
        simp only [simB, zbo, Nat.reduceBEq, own0, ↓reduceIte, Nat.reduceEqDiff, Nat.reduceAdd, zdv, zdw, zdx, zdy, zdz, zea, zeb, zec, ia22, ld31, zed, zee, zef, zeg, zeh, zei, zej, zek, zel, zem, zen, zeo, zep, zeq, zer, fa_0, fa_1, zes, bd_0, bd_2, zet, fd_1, zeu, Nat.zero_add, e2, j2, e1, e5, faT_4, ldT_4, lenTk, q1, q2, ia, ld, cc, f5]
        exact ih2 (i + 1, lgT kid v) _ _ (by simp only; omega) rfl ⟨(by first | (simp only [zfp, ↓reduceIte, Nat.reduceEqDiff, e2]; done) | (simp only [zfp, ↓reduceIte, Nat.reduceEqDiff, e2]; rfl)), by simp only [cellsT]; exact (by first | (simp only [zfp, ↓reduceIte, Nat.reduceEqDiff, j2]; done) | (simp only [zfp, ↓reduceIte, Nat.reduceEqDiff, j2]; rfl)), (by first | (simp only [zfp, ↓reduceIte, Nat.reduceEqDiff]; done) | (simp only [zfp, ↓reduceIte, Nat.reduceEqDiff]; rfl)), (by first | (simp only [zfp, ↓reduceIte, Nat.reduceEqDiff]; done) | (simp only [zfp, ↓reduceIte, Nat.reduceEqDiff]; rfl)), by simp only; omega, by simp only; omega, by simp only; omega, by simp only; rw [drop_next hdr]; exact hk⟩
      · rw [if_neg q2] at hk
        rw [hk]
        simp only [simB, zbo, Nat.reduceBEq, own0, ↓reduceIte, Nat.reduceEqDiff, Nat.reduceAdd, zdv, zdw, zdx, zdy, zdz, zea, zeb, zec, ia22, ld31, zed, zee, zef, zeg, zeh, zei, zej, zek, zel, zem, zen, zeo, zep, zeq, zer, fa_0, fa_1, zes, bd_0, bd_2, zet, fd_1, zeu, Nat.zero_add, e2, j2, e1, e5, faT_4, ldT_4, lenTk, q1, q2]
        exact finish_i _ _ _ _ _ _ _ (by first | (simp only [zfp, ↓reduceIte, Nat.reduceEqDiff]; done) | (simp only [zfp, ↓reduceIte, Nat.reduceEqDiff]; rfl)) rfl
theorem Light_eq (R : Nat) (hR : 2000 ≤ R) (hR2 : R ≤ 9223372036854775808) (d : Nat) (t : T) (n : Int) (h0 : 0 ≤ n) (h1 : n < 1000) (hd : n + 2 ≤ (d : Int)) (hb : bigT R t) (hf : fewT R t) :
    evalFn Tryz.prog cfg0 R (d+1) 31 [.tree (encT t), .tree (.int .i64 n)] = some (.tree (.bool (decide (lgT t n ≥ 0))), [[], []]) := by
  rw [evalFn_go _ Tryz.func31 (by unfold Tryz.f31; rfl) (by unfold Tryz.f31; decide) (Nat.le_of_ble_eq_true (by unfold Tryz.f31; rfl)) (by kernel_rfl)]
  have cc := fun D st => callA_trees (cfg := cfg0) (d := D) (s := st) (f := 60) (vs := [encT t, .int .i64 n]) rfl (light_eq R hR hR2 d t n h0 h1 hd hb hf)
  simp only [encT] at cc
  simp only [simB, zbo, Nat.reduceBEq, own0, ↓reduceIte, Nat.reduceEqDiff, Nat.reduceAdd, env0, List.getElem?_cons_zero, List.getElem?_cons_succ, zdv, zdw, zdx, zdy, zdz, zea, zeb, zec, ia22, ld31, zed, zee, zef, zeg, zeh, zei, zej, zek, zel, zem, zen, zeo, zep, zeq, zer, fa_0, fa_1, zes, bd_0, bd_2, zet, fd_1, zeu, Nat.zero_add, encT, ldT_u, cc]
  exact finish_b _ _ _ _ _ _ _ (by first | (simp only [zfp, ↓reduceIte, Nat.reduceEqDiff]; done) | (simp only [zfp, ↓reduceIte, Nat.reduceEqDiff]; rfl)) rfl

/-! ### Items -/
def itT : Nat → T → List T → Option (List T)
  | 0, _, _ => none
  | r + 1, t, acc => if kindT t = 3 then some acc else if kindT t = 4 then (match kidsT t with | [h, u] => itT r u (acc ++ [h]) | _ => none) else none
theorem itT_mk (r : Nat) (k : Int) (b : Bool) (lg : Gk) (l : List Nat) (s : List UInt8) (n : Int) (kg : Gk) (ks acc : List T) : itT (r + 1) (.mk k b lg l s n kg ks) acc = if k = 3 then some acc else if k = 4 then (match ks with | [h, u] => itT r u (acc ++ [h]) | _ => none) else none := rfl
def itemsT (t : T) : Option (List T) := itT 2001 t []
def itemsV : Option (List T) → AV
  | some l => .tup [.sl (cellsK l) l.length (gr (kgOf l)), .bool true]
  | none => .tup [.sl [] 0 .nil, .bool false]
theorem finish_Kb (k : Bool) (xs : List Arg) (t t' d : Nat) (x : AV) (us : List T) (env : Env) (s : St) (b : Bool) (os : List (List AV)) (hv : env t = x) (hA : Ap s d x us) (hb : env t' = .bool b) (ho : outsA s 0 xs = some os) :
    finishP Tryz.prog k xs #[.tmp t, .tmp t'] env s = some (.tree (.tup [.sl (cellsK us) us.length (gr (kgOf us)), .bool b]), os) := by
  rw [finishP_t2]
  rcases hA with ⟨rfl, rfl⟩ | ⟨hu, tt, rfl, _⟩
  · simp [finish, hv, hb, settleL, settle, ho, kgOf, gr, cellsK]
  · simp [finish, hv, hb, settleL, settle, ho, kgOf, hu, gr]
set_option maxHeartbeats 8000000 in
theorem items_eq (R : Nat) (hR : 2010 ≤ R) (d : Nat) (t0 : T) : evalFn Tryz.prog cfg0 R (d+1) 53 [.tree (encT t0)] = some (.tree (itemsV (itemsT t0)), [[]]) := by
  rw [evalFn_go _ Tryz.func53 (by unfold Tryz.f53; rfl) (by unfold Tryz.f53; decide) (Nat.le_of_ble_eq_true (by unfold Tryz.f53; rfl)) (by kernel_rfl)]
  simp only [simB, zbo, Nat.reduceBEq, own0, ↓reduceIte, Nat.reduceEqDiff, Nat.reduceAdd, env0, List.getElem?_cons_zero, List.getElem?_cons_succ, zef, zeg, zeh, zei, zej, zek, zel, zem, zen, zeo, zep, zeq, zer, fa_0, fa_1, zes, bd_0, bd_2, zet, fd_1, zeu, Nat.zero_add, encT, den_loop]
  refine loop_ends (X := T × List T) (fun x env s => env 1 = .ptr 1 1 0 ∧ s 1 = ⟨1, .buf (cellsT x.1)⟩ ∧ Ap s 29 (env 4) x.2 ∧ x.2.length ≤ 2001 ∧ itT (2001 - x.2.length) x.1 x.2 = itemsT t0) (fun x => 2001 - x.2.length) (fun _ => (.tree (itemsV (itemsT t0)), [[]])) ?_ R (t0, []) _ _ (by simp only [List.length_nil]; omega) ⟨(by first | (simp only [zfp, ↓reduceIte, Nat.reduceEqDiff]; done) | (simp only [zfp, ↓reduceIte, Nat.reduceEqDiff]; rfl)), (by first | (simp only [zfp, ↓reduceIte, Nat.reduceEqDiff]; done) | (simp only [zfp, ↓reduceIte, Nat.reduceEqDiff]; rfl)), .inl ⟨rfl, (by first | (simp only [zfp, ↓reduceIte, Nat.reduceEqDiff]; done) | (simp only [zfp, ↓reduceIte, Nat.reduceEqDiff]; rfl))⟩, by simp, rfl⟩
  rintro rd ⟨t, acc⟩ hrd ih env st ⟨e1, j1, ap, hl, hit⟩
  simp only at j1 ap hl hit hrd
  rw [← hit]
  generalize h4 : env 4 = x4 at ap
  have la : ∀ st, lenA Tryz.prog 22 st x4 = some (.int .i64 (acc.length : Int)) := fun st => by
    rcases ap with ⟨rfl, rfl⟩ | ⟨_, tt, rfl, _⟩
    · exact lenTk st [] 0 .nil
    · exact lenTk st _ _ _
  by_cases q1 : (acc.length : Int) ≤ 2000
  rotate_left
  · have h0 : 2001 - acc.length = 0 := by omega
    rw [h0, itT]
    simp only [simB, zbo, Nat.reduceBEq, own0, ↓reduceIte, Nat.reduceEqDiff, Nat.reduceAdd, zdv, zdw, zdx, zdy, zdz, zea, zeb, zec, ia22, ld31, zed, zee, zef, zeg, zeh, zei, zej, zek, zel, zem, zen, zeo, zep, zeq, zer, fa_0, fa_1, zes, bd_0, bd_2, zet, fd_1, zeu, Nat.zero_add, e1, h4, la, q1]
    exact finish_Kb _ _ _ _ 29 _ [] _ _ _ _ (by first | (simp only [zfp, ↓reduceIte, Nat.reduceEqDiff]; done) | (simp only [zfp, ↓reduceIte, Nat.reduceEqDiff]; rfl)) (.inl ⟨rfl, rfl⟩) (by first | (simp only [zfp, ↓reduceIte, Nat.reduceEqDiff]; done) | (simp only [zfp, ↓reduceIte, Nat.reduceEqDiff]; rfl)) rfl
  obtain ⟨r, hr⟩ : ∃ r, 2001 - acc.length = r + 1 := ⟨2000 - acc.length, by omega⟩
  rw [hr] at hit ⊢
  obtain ⟨k, b, lg, l, s, m, kg, ks⟩ := t
  simp only [cellsT] at j1
  rw [itT_mk] at hit ⊢
  by_cases k3 : k = 3
  · rw [if_pos k3]
    have q3 : (k == 3) = true := by rw [k3]; rfl
    simp only [simB, zbo, Nat.reduceBEq, own0, ↓reduceIte, Nat.reduceEqDiff, Nat.reduceAdd, zdv, zdw, zdx, zdy, zdz, zea, zeb, zec, ia22, ld31, zed, zee, zef, zeg, zeh, zei, zej, zek, zel, zem, zen, zeo, zep, zeq, zer, fa_0, fa_1, zes, bd_0, bd_2, zet, fd_1, zeu, Nat.zero_add, e1, j1, h4, la, q1, faT_0, ldT_0, i_eqlV, q3]
    exact finish_Kb _ _ _ _ 29 x4 acc _ _ _ _ (by first | (simp only [zfp, ↓reduceIte, Nat.reduceEqDiff]; done) | (simp only [zfp, ↓reduceIte, Nat.reduceEqDiff]; rfl)) ap (by first | (simp only [zfp, ↓reduceIte, Nat.reduceEqDiff]; done) | (simp only [zfp, ↓reduceIte, Nat.reduceEqDiff]; rfl)) rfl
  have q3 : (k == 3) = false := beq_eq_false_iff_ne.mpr k3
  rw [if_neg k3] at hit ⊢
  by_cases k4 : k = 4
  rotate_left
  · rw [if_neg k4]
    have q4 : (k != 4) = true := bne_iff_ne.mpr k4
    simp only [simB, zbo, Nat.reduceBEq, own0, ↓reduceIte, Nat.reduceEqDiff, Nat.reduceAdd, zdv, zdw, zdx, zdy, zdz, zea, zeb, zec, ia22, ld31, zed, zee, zef, zeg, zeh, zei, zej, zek, zel, zem, zen, zeo, zep, zeq, zer, fa_0, fa_1, zes, bd_0, bd_2, zet, fd_1, zeu, Nat.zero_add, e1, j1, h4, la, q1, faT_0, ldT_0, i_eqlV, i_neqV, q3, q4]
    exact finish_Kb _ _ _ _ 29 _ [] _ _ _ _ (by first | (simp only [zfp, ↓reduceIte, Nat.reduceEqDiff]; done) | (simp only [zfp, ↓reduceIte, Nat.reduceEqDiff]; rfl)) (.inl ⟨rfl, rfl⟩) (by first | (simp only [zfp, ↓reduceIte, Nat.reduceEqDiff]; done) | (simp only [zfp, ↓reduceIte, Nat.reduceEqDiff]; rfl)) rfl
  have q4 : (k != 4) = false := by rw [k4]; rfl
  rw [if_pos k4] at hit ⊢
  by_cases k2 : ks.length = 2
  rotate_left
  · have hn : (match ks with | [h, u] => itT r u (acc ++ [h]) | _ => none) = none := by
      match ks, k2 with
      | [], _ => rfl
      | [_], _ => rfl
      | [_, _], h => exact absurd rfl h
      | _ :: _ :: _ :: _, _ => rfl
    rw [hn]
    have q5 : ((ks.length : Int) != 2) = true := bne_iff_ne.mpr (by omega)
    simp only [simB, zbo, Nat.reduceBEq, own0, ↓reduceIte, Nat.reduceEqDiff, Nat.reduceAdd, zdv, zdw, zdx, zdy, zdz, zea, zeb, zec, ia22, ld31, zed, zee, zef, zeg, zeh, zei, zej, zek, zel, zem, zen, zeo, zep, zeq, zer, fa_0, fa_1, zes, bd_0, bd_2, zet, fd_1, zeu, Nat.zero_add, e1, j1, h4, la, q1, faT_0, ldT_0, faT_4, ldT_4, lenTk, i_eqlV, i_neqV, q3, q4, q5]
    exact finish_Kb _ _ _ _ 29 _ [] _ _ _ _ (by first | (simp only [zfp, ↓reduceIte, Nat.reduceEqDiff]; done) | (simp only [zfp, ↓reduceIte, Nat.reduceEqDiff]; rfl)) (.inl ⟨rfl, rfl⟩) (by first | (simp only [zfp, ↓reduceIte, Nat.reduceEqDiff]; done) | (simp only [zfp, ↓reduceIte, Nat.reduceEqDiff]; rfl)) rfl
  obtain ⟨h, u, rfl⟩ : ∃ h u, ks = [h, u] := by
    match ks, k2 with
    | [h, u], _ => exact ⟨h, u, rfl⟩
  simp only at hit ⊢
  have q5 : (((2 : Nat) : Int) != 2) = false := rfl
  obtain ⟨x', s', a1, a2, a3⟩ := ap.push (by omega) h
  have i0 : ∀ st, indexAddrA Tryz.prog 22 st (.sl (cellsK [h, u]) 2 (gr kg)) (.int .i64 0) = some (.rptr (cellsK [h, u])) := fun st => ia_K st [h, u] (gr kg) 0 (by simp)
  have i1 : ∀ st, indexAddrA Tryz.prog 22 st (.sl (cellsK [h, u]) 2 (gr kg)) (.int .i64 1) = some (.rptr (cellsK [u])) := fun st => ia_K st [h, u] (gr kg) 1 (by simp)
  have l0 := fun st => ld_K st h [u]
  have l1 := fun st => ld_K st u []
  simp only [encT] at l0 l1
  have bs := fun (q : Bool) (d' : Option Tmp) (ty : TypeId) (pos : String) (af : Array Edge) (g : Option (Nat × Bool)) (t : Nat) (env : Env) (s : St) (x : Operand) (hx : ev env x = .agg (cellsT h)) => opA_bs1 (evalFn Tryz.prog cfg0 R d) q d' ty pos af g t env s x _ hx
  have j1' : s' 1 = ⟨1, .buf [.int .i64 k, .bool b, encL lg l, .str s, .int .i64 m, .sl (cellsK [h, u]) 2 (gr kg)]⟩ := by rw [a3 1 (by decide)]; exact j1
  simp only [List.length_cons, List.length_nil, Nat.zero_add, Nat.reduceAdd] at j1
  simp only [simB, zbo, Nat.reduceBEq, own0, ↓reduceIte, Nat.reduceEqDiff, Nat.reduceAdd, zdv, zdw, zdx, zdy, zdz, zea, zeb, zec, ia22, ld31, zed, zee, zef, zeg, zeh, zei, zej, zek, zel, zem, zen, zeo, zep, zeq, zer, fa_0, fa_1, zes, bd_0, bd_2, zet, fd_1, zeu, Nat.zero_add, e1, j1, h4, la, q1, faT_0, ldT_0, faT_4, ldT_4, lenTk, i_eqlV, i_neqV, q3, q4, q5, i0, l0]
  rw [bs _ _ _ _ _ _ _ _ _ _ (by first | (simp only [zfp, ↓reduceIte, Nat.reduceEqDiff, zfk]; done) | (simp only [zfp, ↓reduceIte, Nat.reduceEqDiff, zfk]; rfl))]
  simp only [simB, zbo, Nat.reduceBEq, own0, ↓reduceIte, Nat.reduceEqDiff, Nat.reduceAdd, zdv, zdw, zdx, zdy, zdz, zea, zeb, zec, ia22, ld31, zed, zee, zef, zeg, zeh, zei, zej, zek, zel, zem, zen, zeo, zep, zeq, zer, fa_0, fa_1, zes, bd_0, bd_2, zet, fd_1, zeu, Nat.zero_add, a1, e1, j1', h4, faT_4, ldT_4, i1, l1, st_Tt, stT_6]
  have ha := a2
  rw [hit]
  refine ih (u, acc ++ [h]) _ _ (by simp; omega) rfl ?_
  refine ⟨(by first | (simp only [zfp, ↓reduceIte, Nat.reduceEqDiff, e1]; done) | (simp only [zfp, ↓reduceIte, Nat.reduceEqDiff, e1]; rfl)), (by first | (simp only [zfp, ↓reduceIte, Nat.reduceEqDiff]; done) | (simp only [zfp, ↓reduceIte, Nat.reduceEqDiff]; rfl)), ?_, by simp; omega, ?_⟩
  · rcases ha with ⟨g1, _⟩ | ⟨g1, tt, g2, g3⟩
    · exact absurd g1 (by simp)
    · exact .inr ⟨g1, tt, g2, by rw [upd_ne _ _ (by decide)]; exact g3⟩
  · simp only [List.length_append, List.length_cons, List.length_nil]
    rw [show 2001 - (acc.length + (0 + 1)) = r by omega]
    exact hit
end Go.Ab

/- How many words a term takes. Conditions: terms that are lean. -/
namespace Go.Ab
open Go.Proofs
set_option maxRecDepth 100000
set_option linter.unusedSimpArgs false

end Go.Ab

/- relictref03.Same, walked. Conditions: so many limbs, nodes at most. -/
namespace Go.Ab
open Go.Proofs
set_option maxRecDepth 100000
set_option linter.unusedSimpArgs false

end Go.Ab

/- relictref03.Same of any terms. Conditions: so many limbs, nodes at most. -/
namespace Go.Ab
open Go.Proofs
set_option maxRecDepth 100000
set_option linter.unusedSimpArgs false
end Go.Ab

/- bif.number, bif.empty, bif.text; relictref03.List, relictlaw00.Proper. Conditions: lengths in range. -/
namespace Go.Ab
open Go.Proofs
set_option maxRecDepth 100000
set_option linter.unusedSimpArgs false

/-- A small number as the program makes it. -/
def numG (v : Int) : Gk := if v.natAbs = 0 then .n else .l
def smallT (v : Int) : T := .mk 1 (decide (v < 0)) (numG v) (digs v.natAbs) [] 0 .n []
theorem encZ_G (v : Int) : encZ v = .agg [.bool (decide (v < 0)), encL (numG v) (digs v.natAbs)] := rfl
theorem number_eq (n d : Nat) (hn : 100000 ≤ n) (v : Int) (h : I64 v) : evalFn Tryz.prog cfg0 n (d+4) 52 [.tree (.int .i64 v)] = some (.tree (encT (smallT v)), [[]]) := by
  rw [evalFn_go _ Tryz.func52 (by unfold Tryz.f52; rfl) (by unfold Tryz.f52; decide) (Nat.le_of_ble_eq_true (by unfold Tryz.f52; rfl)) (by kernel_rfl)]
  have c1 := fun D st => cOf64 n d hn v h.1 h.2 D st
  have b1 := bdT_1 1 (decide (v < 0)) (numG v) (digs v.natAbs)
  have st1 := fun st p k => st_Tt st p k (smallT v)
  simp only [smallT, cellsT, encC, List.map_nil, cellsK, List.length_nil, gr] at st1
  simp only [simB, zbo, Nat.reduceBEq, own0, ↓reduceIte, Nat.reduceEqDiff, Nat.reduceAdd, env0, List.getElem?_cons_zero, List.getElem?_cons_succ, zdv, zdw, zdx, zdy, zdz, zea, zeb, zec, ia22, ld31, zed, zee, zef, zeg, zeh, zei, zej, zek, zel, zem, zen, zeo, zep, zeq, zer, fa_0, fa_1, zes, bd_0, bd_2, zet, fd_1, zeu, Nat.zero_add, zeroT, c1, encZ_G, b1, st1]
  have st6 := fun t k p st => stT_6 t k p st (.int .i64 0) (.bool false) (.sl [] 0 .nil) (.str []) (.int .i64 0) (.sl [] 0 .nil) (smallT v)
  simp only [smallT, cellsT, encC, List.map_nil, cellsK, List.length_nil, gr] at st6
  first
    | exact finish_cT _ _ _ _ _ (smallT v) _ _ _ (by first | (simp only [zfp, ↓reduceIte, Nat.reduceEqDiff]; done) | (simp only [zfp, ↓reduceIte, Nat.reduceEqDiff]; rfl)) (by simp only [smallT, cellsT, encC, List.map_nil, cellsK, List.length_nil, gr]; exact (by first | (simp only [zfp, ↓reduceIte, Nat.reduceEqDiff]; done) | (simp only [zfp, ↓reduceIte, Nat.reduceEqDiff]; rfl))) rfl
    | simp only [simB, zbo, Nat.reduceBEq, own0, ↓reduceIte, Nat.reduceEqDiff, Nat.reduceAdd, env0, List.getElem?_cons_zero, List.getElem?_cons_succ, zdv, zdw, zdx, zdy, zdz, zea, zeb, zec, ia22, ld31, zed, zee, zef, zeg, zeh, zei, zej, zek, zel, zem, zen, zeo, zep, zeq, zer, fa_0, fa_1, zes, bd_0, bd_2, zet, fd_1, zeu, Nat.zero_add, st6]
  exact finish_cT _ _ _ _ _ (smallT v) _ _ _ (by first | (simp only [zfp, ↓reduceIte, Nat.reduceEqDiff]; done) | (simp only [zfp, ↓reduceIte, Nat.reduceEqDiff]; rfl)) (by simp only [smallT, cellsT, encC, List.map_nil, cellsK, List.length_nil, gr]; exact (by first | (simp only [zfp, ↓reduceIte, Nat.reduceEqDiff]; done) | (simp only [zfp, ↓reduceIte, Nat.reduceEqDiff]; rfl))) rfl
theorem bdN3 : buildA Tryz.prog 29 [(0, .int .i64 3)] = some (.agg (cellsT nilT')) := bdT_0 3
/-! ### Rows that are handed over -/
theorem argsA_loose (f : FuncId) (s : St) : ∀ (vs : List AV) (j : Nat), vs.all isLent = true → argsA cfg0 f s j vs = some (vs.map fun v => .tree (loosen v))
  | [], _, _ => rfl
  | v :: r, j, h => by
    rw [List.all_cons, Bool.and_eq_true] at h
    have e : argA cfg0 f s j v = some (.tree (loosen v)) := by
      cases v with
      | sl a b g => cases g <;> rfl
      | own => exact nomatch h.1
      | ptr => exact nomatch h.1
      | tupo => exact nomatch h.1
      | _ => rfl
    simp only [argsA, e, Option.bind_some, argsA_loose f s r (j + 1) h.2, Option.map_some, List.map_cons]
theorem gives_loose : ∀ vs : List AV, givesL vs (vs.map fun v => Arg.tree (loosen v)) = []
  | [] => rfl
  | v :: r => by
    have e : givesOf v (Arg.tree (loosen v)) = none := by
      cases v with
      | sl a b g => cases g <;> rfl
      | _ => rfl
    simp only [List.map_cons, givesL, e, gives_loose r]
theorem lends_loose : ∀ vs : List AV, vs.all isLent = true → lendsL vs (vs.map fun v => Arg.tree (loosen v)) = []
  | [], _ => rfl
  | v :: r, h => by
    rw [List.all_cons, Bool.and_eq_true] at h
    have e : lendsOf v (Arg.tree (loosen v)) = none := by
      cases v with
      | sl a b g => cases g <;> rfl
      | own => exact nomatch h.1
      | _ => rfl
    simp only [List.map_cons, lendsL, e, lends_loose r h.2]
theorem back_loose (s : St) : ∀ vs : List AV, backA s vs (vs.map fun v => Arg.tree (loosen v)) (vs.map fun _ => []) = some s
  | [] => rfl
  | v :: r => by
    have e : givesOf v (Arg.tree (loosen v)) = none := by
      cases v with
      | sl a b g => cases g <;> rfl
      | _ => rfl
    simp only [List.map_cons, backA, e, back_loose s r]
theorem callA_loose {call : FuncId → List Arg → Option Out} {d : Nat} {s : St} {f : FuncId} {vs vs' : List AV} {v : AV} (ht : vs.all isLent = true) (e : vs.map loosen = vs') (hc : call f (vs'.map Arg.tree) = some (.tree v, vs.map fun _ => [])) : callA cfg0 call d s f vs = some (v, s) := by
  have e2 : (vs.map fun v => Arg.tree (loosen v)) = vs'.map .tree := by rw [← e]; simp
  have h1 := argsA_loose f s vs 0 ht
  have h2 := gives_loose vs
  have h3 := lends_loose vs ht
  have h4 := back_loose s vs
  rw [e2] at h1 h2 h3 h4
  simp only [callA, h1, Option.bind_some, h2, h3, List.nodup_nil, List.not_mem_nil, false_implies, implies_true, and_self, if_true, hc, List.foldl_nil, ite_self, h4, resA]
theorem Ap.lent {s : St} {d : Nat} {x : AV} {us : List T} (h : Ap s d x us) : isLent x = true ∧ loosen x = .sl (cellsK us) us.length (gr (kgOf us)) := by
  rcases h with ⟨rfl, rfl⟩ | ⟨hu, t, rfl, _⟩
  · exact ⟨rfl, rfl⟩
  · exact ⟨rfl, by simp only [loosen, kgOf, if_neg hu, gr]⟩
theorem lent_T (t : T) : isLent (.agg (cellsT t)) = true := rfl
def one26 (x : AV) : Option AV := (fillA (fun i => some (i * 6, 6)) (rep 1 zeroT6) [(0, x)]).map (.sl · 1 .tight)
theorem one26_T (e : T) : one26 (.agg (cellsT e)) = some (.sl (cellsT e) 1 .tight) := bs1T e
theorem one26_K (e : T) : one26 (.agg (cellsT e)) = some (.sl (cellsK [e]) [e].length .tight) := by
  rw [one26_T]; simp [cellsK]
theorem opA_one26 (call : FuncId → List Arg → Option Out) (q : Bool) (d : Option Tmp) (ty : TypeId) (pos : String) (af : Array Edge) (g : Option (Nat × Bool)) (t : Nat) (env : Env) (s : St) (x : Operand) :
    opA Tryz.prog cfg0 call q ⟨d, .buildSlice 22 1 #[(0, x)], ty, pos, af, g⟩ t env s = (one26 (ev env x)).map (·, s) := by
  rw [opA_bs]
  simp only [tkTk, eszT, zeroT, Option.bind_some, List.map_cons, List.map_nil]
  rfl
end Go.Ab

/- The reference's Int, Neg, Bits; copies of numbers. Conditions: limbs in range. -/
namespace Go.Ab
open Go.Proofs
set_option maxRecDepth 100000
set_option linter.unusedSimpArgs false

set_option maxHeartbeats 2000000 in
theorem rneg_eq (n d : Nat) (hn : 100000 ≤ n) {w : AV} {z : Int} (hw : IsN w z) : evalFn Tryz.prog cfg0 n (d+3) 81 [.tree w] = some (.tree (canA .l (-z)), [[]]) := by
  obtain ⟨g, c1⟩ := cRis n d hw
  have hlt := hw.lt
  obtain ⟨neg, g0, l, rfl, hl, hz⟩ := hw
  rw [evalFn_go _ Tryz.func81 (by unfold Tryz.f81; rfl) (by unfold Tryz.f81; decide) (Nat.le_of_ble_eq_true (by unfold Tryz.f81; rfl)) (by kernel_rfl)]
  have c2 := fun D s => cRmade n d hn D s (num_can g z hlt) (!decide (z < 0))
  rw [sgn_flip, madeF_fit (by omega)] at c2
  simp only [simB, zbo, Nat.reduceBEq, own0, ↓reduceIte, Nat.reduceEqDiff, Nat.reduceAdd, env0, List.getElem?_cons_zero, List.getElem?_cons_succ, zdv, zdw, zdx, zdy, zdz, zea, zeb, zec, ia22, ld31, zed, zee, zef, zeg, zeh, zei, zej, zek, zel, zem, zen, zeo, zep, zeq, zer, fa_0, fa_1, zes, bd_0, bd_2, zet, fd_1, zeu, Nat.zero_add, st0_1, c1, unA_not', c2, ext_0, ext_1, zeq]
  exact finish_c _ _ 2 2 1 _ _ _ _ _ (by simp only [zfp, ↓reduceIte, Nat.reduceEqDiff]) (by simp only [zfp, ↓reduceIte, Nat.reduceEqDiff]) rfl
theorem qRneg (n d : Nat) (hn : 100000 ≤ n) {w : AV} {z : Int} (hw : IsN w z) : callQ (evalFn Tryz.prog cfg0 n (d+3)) 81 [w] = some (canA .l (-z)) :=
  callQ_trees (by simp [hw.tree]) (rneg_eq n d hn hw)
theorem bd_2T (b : Bool) (l : List Nat) (p t : Nat) : buildA Tryz.prog 27 [(0, .bool b), (1, .sl (encC l) l.length (.tok p t))] = some (encA b .l l) := by
  simp only [buildA, zeu, tk24, pl24, Option.bind_some]
  rfl
set_option maxHeartbeats 2000000 in
theorem copyN_eq (n d : Nat) (b : Bool) (g : Gk) (l : List Nat) (hl : l.length ≤ 1000000) : evalFn Tryz.prog cfg0 n (d+2) 50 [.tree (encA b g l)] = some (.tree (encA b .l l), [[]]) := by
  rw [evalFn_go _ Tryz.func50 (by unfold Tryz.f50; rfl) (by unfold Tryz.f50; decide) (Nat.le_of_ble_eq_true (by unfold Tryz.f50; rfl)) (by kernel_rfl)]
  have c1 := fun D s => cLimbsT n d (sh_L g l) hl D s
  have kp : cfg0.keep 79 = true := by kernel_rfl
  have it : [encL g l].all isTree = true := by cases g <;> rfl
  simp only [simB, zbo, Nat.reduceBEq, own0, ↓reduceIte, Nat.reduceEqDiff, Nat.reduceAdd, env0, List.getElem?_cons_zero, List.getElem?_cons_succ, zdv, zdw, zdx, zdy, zdz, zea, zeb, zec, ia22, ld31, zed, zee, zef, zeg, zeh, zei, zej, zek, zel, zem, zen, zeo, zep, zeq, zer, fa_0, fa_1, zes, bd_0, bd_2, zet, fd_1, zeu, Nat.zero_add, st0_1, kp, it, c1, bd_2T]
  exact finish_c _ _ 2 2 1 _ _ _ _ _ (by simp only [zfp, ↓reduceIte, Nat.reduceEqDiff]) (by simp only [zfp, ↓reduceIte, Nat.reduceEqDiff]) rfl
set_option maxHeartbeats 4000000 in
theorem rint_eq (n d : Nat) (hn : 100000 ≤ n) {w : AV} {z : Int} (hw : IsN w z) : evalFn Tryz.prog cfg0 n (d+3) 59 [.tree w] = some (.tree (intZ z), [[]]) := by
  obtain ⟨g, c1⟩ := cRis n d hw
  have hlt := hw.lt
  obtain ⟨neg0, g0, l0, rfl, _, _⟩ := hw
  rw [evalFn_go _ Tryz.func59 (by unfold Tryz.f59; rfl) (by unfold Tryz.f59; decide) (Nat.le_of_ble_eq_true (by unfold Tryz.f59; rfl)) (by kernel_rfl)]
  have hl := limbs_digs z.natAbs
  have hv := val_digs z.natAbs
  have hdl : ∀ k, (digs z.natAbs).length ≤ k ↔ z.natAbs < B ^ k := digs_len_le z.natAbs
  obtain ⟨l, hle⟩ : ∃ l, digs z.natAbs = l := ⟨_, rfl⟩
  rw [hle] at hl hv hdl
  by_cases h2 : (l.length : Int) > 2
  · have hb : ¬ z.natAbs < B ^ 2 := fun h => by have := (hdl 2).mpr h; omega
    have e : B ^ 2 = 18446744073709551616 := by decide
    rw [e] at hb
    have hi : isI64 z = false := by
      unfold isI64
      by_cases hz : z < 0
      · rw [decide_eq_false (show ¬ -9223372036854775808 ≤ z by omega)]; rfl
      · rw [decide_eq_false (show ¬ z < 9223372036854775808 by omega), Bool.and_false]
    rw [intZ, if_neg (by rw [hi]; decide)]
    simp only [simB, zbo, Nat.reduceBEq, own0, ↓reduceIte, Nat.reduceEqDiff, Nat.reduceAdd, env0, List.getElem?_cons_zero, List.getElem?_cons_succ, zdv, zdw, zdx, zdy, zdz, zea, zeb, zec, ia22, ld31, zed, zee, zef, zeg, zeh, zei, zej, zek, zel, zem, zen, zeo, zep, zeq, zer, fa_0, fa_1, zes, bd_0, bd_2, zet, fd_1, zeu, Nat.zero_add, st0_1, c1, hle, h2]
    exact finish_ib _ _ _ _ _ _ _ _ _ (by simp only [zfp, ↓reduceIte, Nat.reduceEqDiff]) (by simp only [zfp, ↓reduceIte, Nat.reduceEqDiff]) rfl
  have hx64 : z.natAbs < 18446744073709551616 := by rw [← hv]; exact len2_val l hl (by omega)
  have b0 := i_sub Tryz.prog 3 (l.length : Int) 1 (by omega) (by omega)
  simp only [simB, zbo, Nat.reduceBEq, own0, ↓reduceIte, Nat.reduceEqDiff, Nat.reduceAdd, env0, List.getElem?_cons_zero, List.getElem?_cons_succ, zdv, zdw, zdx, zdy, zdz, zea, zeb, zec, ia22, ld31, zed, zee, zef, zeg, zeh, zei, zej, zek, zel, zem, zen, zeo, zep, zeq, zer, fa_0, fa_1, zes, bd_0, bd_2, zet, fd_1, zeu, Nat.zero_add, st0_1, c1, hle, h2, b0, den_loop]
  refine loop_ends (X := Nat) (fun j env s => env 4 = .ptr 4 1 0 ∧ s 4 = ⟨1, .buf [.bool (decide (z < 0)), encL g l]⟩ ∧ env 6 = .int .i64 ((j : Int) - 1) ∧ env 5 = .int .u64 (val (l.drop j) : Int) ∧ j ≤ l.length ∧ outsA s 0 [.tree (encA neg0 g0 l0)] = some [[]]) (fun j => j) (fun _ => (.tree (intZ z), [[]])) ?_ n l.length _ _ (by omega) ⟨by simp only [zfp, ↓reduceIte, Nat.reduceEqDiff], by simp only [zfp, ↓reduceIte, Nat.reduceEqDiff], by simp only [zfp, ↓reduceIte, Nat.reduceEqDiff], by rw [List.drop_length]; simp only [zfp, ↓reduceIte, Nat.reduceEqDiff]; rfl, Nat.le_refl _, rfl⟩
  intro k j hx ih env s ⟨e4, hs, e6, e5, hj, ho⟩
  by_cases hp : j = 0
  · subst hp
    have q1 : ¬ ((0 : Nat) : Int) - 1 ≥ 0 := by omega
    rw [List.drop_zero, hv] at e5
    by_cases hz : z < 0
    · by_cases hr : z.natAbs ≤ 9223372036854775808
      · have hr' : (z.natAbs : Int) ≤ 9223372036854775808 := by omega
        have u := un_neg64 z.natAbs (by omega)
        rw [Nat.mod_eq_of_lt (by omega)] at u
        have c2 := fun s => conv55_3 s (18446744073709551616 - z.natAbs) (by omega)
        simp only [if_neg (show ¬ 18446744073709551616 - z.natAbs < 9223372036854775808 by omega), show ((18446744073709551616 - z.natAbs : Nat) : Int) - 18446744073709551616 = z by omega] at c2
        have hi : isI64 z = true := by
          unfold isI64
          rw [decide_eq_true (show -9223372036854775808 ≤ z by omega), decide_eq_true (show z < 9223372036854775808 by omega)]; rfl
        rw [intZ, if_pos hi]
        simp only [simB, zbo, Nat.reduceBEq, own0, ↓reduceIte, Nat.reduceEqDiff, Nat.reduceAdd, zdv, zdw, zdx, zdy, zdz, zea, zeb, zec, ia22, ld31, zed, zee, zef, zeg, zeh, zei, zej, zek, zel, zem, zen, zeo, zep, zeq, zer, fa_0, fa_1, zes, bd_0, bd_2, zet, fd_1, zeu, Nat.zero_add, e4, hs, e6, e5, q1, hz, hr', u, c2]
        exact finish_ib _ _ _ _ _ _ _ _ _ (by simp only [zfp, ↓reduceIte, Nat.reduceEqDiff]) (by simp only [zfp, ↓reduceIte, Nat.reduceEqDiff]) ho
      · have hr' : ¬ (z.natAbs : Int) ≤ 9223372036854775808 := by omega
        have hi : isI64 z = false := by
          unfold isI64
          rw [decide_eq_false (show ¬ -9223372036854775808 ≤ z by omega)]; rfl
        rw [intZ, if_neg (by rw [hi]; decide)]
        simp only [simB, zbo, Nat.reduceBEq, own0, ↓reduceIte, Nat.reduceEqDiff, Nat.reduceAdd, zdv, zdw, zdx, zdy, zdz, zea, zeb, zec, ia22, ld31, zed, zee, zef, zeg, zeh, zei, zej, zek, zel, zem, zen, zeo, zep, zeq, zer, fa_0, fa_1, zes, bd_0, bd_2, zet, fd_1, zeu, Nat.zero_add, e4, hs, e6, e5, q1, hz, hr', unA_not', Bool.not_true, Bool.not_false]
        exact finish_ib _ _ _ _ _ _ _ _ _ (by simp only [zfp, ↓reduceIte, Nat.reduceEqDiff]) (by simp only [zfp, ↓reduceIte, Nat.reduceEqDiff]) ho
    · by_cases hr : z.natAbs < 9223372036854775808
      · have hr' : (z.natAbs : Int) < 9223372036854775808 := by omega
        have c2 := fun s => conv55_3 s z.natAbs (by omega)
        simp only [if_pos hr, show ((z.natAbs : Nat) : Int) = z by omega] at c2
        have hi : isI64 z = true := by
          unfold isI64
          rw [decide_eq_true (show -9223372036854775808 ≤ z by omega), decide_eq_true (show z < 9223372036854775808 by omega)]; rfl
        rw [intZ, if_pos hi]
        rw [show ((z.natAbs : Nat) : Int) = z by omega] at e5 hr'
        simp only [simB, zbo, Nat.reduceBEq, own0, ↓reduceIte, Nat.reduceEqDiff, Nat.reduceAdd, zdv, zdw, zdx, zdy, zdz, zea, zeb, zec, ia22, ld31, zed, zee, zef, zeg, zeh, zei, zej, zek, zel, zem, zen, zeo, zep, zeq, zer, fa_0, fa_1, zes, bd_0, bd_2, zet, fd_1, zeu, Nat.zero_add, e4, hs, e6, e5, q1, hz, hr', c2, unA_not', Bool.not_true, Bool.not_false]
        exact finish_ib _ _ _ _ _ _ _ _ _ (by simp only [zfp, ↓reduceIte, Nat.reduceEqDiff]) (by simp only [zfp, ↓reduceIte, Nat.reduceEqDiff]) ho
      · have hr' : ¬ (z.natAbs : Int) < 9223372036854775808 := by omega
        have hi : isI64 z = false := by
          unfold isI64
          rw [decide_eq_false (show ¬ z < 9223372036854775808 by omega), Bool.and_false]
        rw [intZ, if_neg (by rw [hi]; decide)]
        simp only [simB, zbo, Nat.reduceBEq, own0, ↓reduceIte, Nat.reduceEqDiff, Nat.reduceAdd, zdv, zdw, zdx, zdy, zdz, zea, zeb, zec, ia22, ld31, zed, zee, zef, zeg, zeh, zei, zej, zek, zel, zem, zen, zeo, zep, zeq, zer, fa_0, fa_1, zes, bd_0, bd_2, zet, fd_1, zeu, Nat.zero_add, e4, hs, e6, e5, q1, hz, hr', unA_not', Bool.not_true, Bool.not_false]
        exact finish_ib _ _ _ _ _ _ _ _ _ (by simp only [zfp, ↓reduceIte, Nat.reduceEqDiff]) (by simp only [zfp, ↓reduceIte, Nat.reduceEqDiff]) ho
  · obtain ⟨i, rfl⟩ : ∃ i, j = i + 1 := ⟨j - 1, by omega⟩
    have ei : ((i + 1 : Nat) : Int) - 1 = (i : Int) := by omega
    rw [ei] at e6
    have q1 : (i : Int) ≥ 0 := by omega
    have q2 : (0 : Int) ≤ (i : Int) := by omega
    have q3 : i < l.length := by omega
    have q4 : (i : Int) < (l.length : Int) := by omega
    have hxi := getD_lt l hl i
    have hd : l.drop i = l.getD i 0 :: l.drop (i + 1) := by
      rw [List.drop_eq_getElem_cons q3, List.getD_eq_getElem?_getD, List.getElem?_eq_getElem q3]; rfl
    have hvd : val (l.drop i) = l.getD i 0 + B * val (l.drop (i + 1)) := by rw [hd]; rfl
    have hB : B = 4294967296 := rfl
    have h64 : val (l.drop i) < 18446744073709551616 := len2_val _ (fun x hx => hl x (List.mem_of_mem_drop hx)) (by rw [List.length_drop]; omega)
    have m2 := u_shl Tryz.prog 96 (val (l.drop (i + 1))) .u64 32 (by decide) (by decide)
    rw [show (2 : Nat) ^ (32 : Int).toNat = 4294967296 from rfl, Nat.mod_eq_of_lt (by rw [hvd, hB] at h64; omega)] at m2
    have m3 := u_add Tryz.prog 96 (val (l.drop (i + 1)) * 4294967296) (l.getD i 0)
    rw [show val (l.drop (i + 1)) * 4294967296 + l.getD i 0 = val (l.drop i) by rw [hvd, hB]; omega, Nat.mod_eq_of_lt h64] at m3
    have f4 := i_sub Tryz.prog 3 (i : Int) 1 (by omega) (by omega)
    simp only [simB, zbo, Nat.reduceBEq, own0, ↓reduceIte, Nat.reduceEqDiff, Nat.reduceAdd, zdv, zdw, zdx, zdy, zdz, zea, zeb, zec, ia22, ld31, zed, zee, zef, zeg, zeh, zei, zej, zek, zel, zem, zen, zeo, zep, zeq, zer, fa_0, fa_1, zes, bd_0, bd_2, zet, fd_1, zeu, Nat.zero_add, e4, hs, e6, e5, q1, q2, q3, q4, Int.toNat_natCast, hxi, m2, m3, f4]
    refine ih i _ _ (by omega) rfl ⟨?_, hs, ?_, ?_, by omega, ho⟩
    · simp only [zfp, ↓reduceIte, Nat.reduceEqDiff, e4]
    · simp only [zfp, ↓reduceIte, Nat.reduceEqDiff]
    · simp only [zfp, ↓reduceIte, Nat.reduceEqDiff]
theorem cRint (n d : Nat) (hn : 100000 ≤ n) {w : AV} {z : Int} (hw : IsN w z) (D : Nat) (s : St) : callA cfg0 (evalFn Tryz.prog cfg0 n (d+3)) D s 59 [w] = some (intZ z, s) :=
  callA_trees (by simp [hw.tree]) (rint_eq n d hn hw)
end Go.Ab

/- The reference's Div. Conditions: limbs in range, not too many. -/
namespace Go.Ab
open Go.Proofs
set_option maxRecDepth 100000
set_option linter.unusedSimpArgs false

/-- What is left, as the reference gives it: nothing at all where no bit was looked at. -/
def encQ (bits r : Nat) : AV := if bits = 0 then .sl [] 0 .nil else encF r
theorem encQ_num (bits r k : Nat) (hk : k ≤ 1000) (h : r < B ^ k) (h0 : bits = 0 → r = 0) : Num (encQ bits r) r := by
  unfold encQ
  split
  · rename_i hb
    rw [h0 hb]; exact num_nil
  · exact num_F r k hk h
theorem settle_Q (s : St) (bits r : Nat) : settle s (encQ bits r) = some (encQ bits r, s) := by
  unfold encQ; split <;> rfl
theorem finish_FQ (k : Bool) (xs : List Arg) (t t' : Nat) (env : Env) (s : St) (v bits v' : Nat) (os : List (List AV)) (hv : env t = encF v) (hv' : env t' = encQ bits v') (ho : outsA s 0 xs = some os) :
    finishP Tryz.prog k xs #[.tmp t, .tmp t'] env s = some (.tree (.tup [encF v, encQ bits v']), os) := by
  have e : settle s (encF v) = some (encF v, s) := settle_L s _ _
  simp only [finishP_t1, finishP_t2, finish, List.mapM_cons, List.mapM_nil, hv, hv', Option.pure_def, Option.bind_eq_bind, Option.bind_some, settleL, e, settle_Q, Option.map_some, ho]
theorem encQ_pos (bits r : Nat) (h : bits ≠ 0) : encQ bits r = encF r := if_neg h
theorem finish_nil2 (k : Bool) (xs : List Arg) (t t' : Nat) (env : Env) (s : St) (os : List (List AV)) (hv : env t = .sl [] 0 .nil) (hv' : env t' = .sl [] 0 .nil) (ho : outsA s 0 xs = some os) :
    finishP Tryz.prog k xs #[.tmp t, .tmp t'] env s = some (.tree (.tup [.sl [] 0 .nil, .sl [] 0 .nil]), os) := by
  simp only [finishP_t1, finishP_t2, finish, List.mapM_cons, List.mapM_nil, hv, hv', Option.pure_def, Option.bind_eq_bind, Option.bind_some, settleL, settle, Option.map_some, ho]
def divR (x y : Nat) : AV := if y = 0 then .tup [.sl [] 0 .nil, .sl [] 0 .nil] else .tup [encF (x / y), encQ (blen x) (x % y)]
theorem rdiv_eq (n d : Nat) (b b' : Gk) (l m : List Nat) (hl : Limbs l) (hm : Limbs m) (hn : 100000 ≤ n) (hll : l.length ≤ 900) (hml : m.length ≤ 900) :
    evalFn Tryz.prog cfg0 n (d+4) 84 [.tree (encL b l), .tree (encL b' m)] = some (.tree (divR (val l) (val m)), [[], []]) := by
  rw [evalFn_go _ Tryz.func84 (by unfold Tryz.f84; rfl) (by unfold Tryz.f84; decide) (Nat.le_of_ble_eq_true (by unfold Tryz.f84; rfl)) (by kernel_rfl)]
  have c1 := rnorm_call n (d + 2) b' m hm (by omega) (by omega)
  by_cases hz : val m = 0
  · have p1 : (((digs (val m)).length : Int) == 0) = true := by rw [hz, digs_0]; rfl
    simp only [simB, zbo, Nat.reduceBEq, own0, ↓reduceIte, Nat.reduceEqDiff, Nat.reduceAdd, env0, List.getElem?_cons_zero, List.getElem?_cons_succ, zdv, zdw, zdx, zdy, zdz, zea, zeb, zec, ia22, ld31, zed, zee, c1, lenF, p1]
    rw [divR, if_pos hz]
    exact finish_nil2 _ _ _ _ _ _ _ (by simp only [zfp, ↓reduceIte, Nat.reduceEqDiff]) (by simp only [zfp, ↓reduceIte, Nat.reduceEqDiff]) rfl
  have p1 : (((digs (val m)).length : Int) == 0) = false := by
    rw [beq_eq_false_iff_ne]
    intro h
    exact hz ((digs_len0 _).mp (by omega))
  rw [divR, if_neg hz]
  have e2 := make22 15 dead (l.length : Int) (by omega) (by omega)
  rw [Int.toNat_natCast] at e2
  have e3 : (dead 15).t + 1 = 1 := rfl
  have c2 := fun D s => rcLen n (d + 1) hn D s (num_L b l hl (by omega))
  have hbl : blen (val l) ≤ 32 * l.length := blen_le _ _ (by rw [← B_pow]; exact val_lt l hl)
  have e4 := i_sub Tryz.prog 3 (blen (val l) : Int) 1 (by omega) (by omega)
  have hmB : val m < B ^ m.length := val_lt m hm
  have nm := num_L b' m hm (by omega)
  simp only [simB, zbo, Nat.reduceBEq, own0, ↓reduceIte, Nat.reduceEqDiff, Nat.reduceAdd, env0, List.getElem?_cons_zero, List.getElem?_cons_succ, zdv, zdw, zdx, zdy, zdz, zea, zeb, zec, ia22, ld31, zed, zee, st0_2, c1, c2, lenF, p1, e2, e3, e4, den_loop]
  obtain ⟨bl, hbq⟩ : ∃ bl, bl = blen (val l) := ⟨_, rfl⟩
  rw [← hbq] at hbl ⊢
  refine loop_ends (X := Nat × Nat × List Nat × Nat) (fun x env s => env 0 = encL b l ∧ env 1 = encL b' m ∧ env 8 = .int .i64 ((x.1 : Int) - 1) ∧ env 7 = encQ (bl - x.1) x.2.1 ∧ env 6 = .own 15 1 0 l.length 1 ∧ s 15 = ⟨1, .buf (encC x.2.2.1)⟩ ∧ x.1 ≤ bl ∧ x.2.1 < val m ∧ (x.1 = bl → x.2.1 = 0) ∧ x.2.2.1.length = l.length ∧ Limbs x.2.2.1 ∧ val x.2.2.1 = x.2.2.2 * 2 ^ x.1 ∧ val l / 2 ^ x.1 = x.2.2.2 * val m + x.2.1) (fun x => x.1) (fun _ => (.tree (.tup [encF (val l / val m), encQ bl (val l % val m)]), [[], []])) ?_ n (bl, 0, List.replicate l.length 0, 0) _ _ (by simp only; omega) ⟨rfl, rfl, rfl, by simp only [Nat.sub_self]; rfl, rfl, rfl, Nat.le_refl _, by simp only; omega, fun _ => rfl, by simp, ?_, by simp [val_rep], ?_⟩
  rotate_left
  · intro x hx; rw [List.eq_of_mem_replicate hx]; decide
  · simp only [Nat.zero_mul, Nat.zero_add]; rw [hbq]; exact Nat.div_eq_of_lt (lt_blen _)
  intro k' ⟨x, r, o, Q⟩ hx ih env s ⟨h0, h1, h7, h5, h6, hs, hi, hr, hr0, hol, hoL, hQ, hA⟩
  simp only at h0 h1 h7 h5 h6 hs hi hr hr0 hol hoL hQ hA hx
  by_cases hp : x = 0
  · subst hp
    have q1 : ¬ (((0 : Nat) : Int) - 1 ≥ 0) := by omega
    obtain ⟨s9, e9⟩ := rnorm_hold n (d + 2) s (.own 15 1 0 l.length 1) o (.inr (.inr ⟨15, 1, by rw [hol], hs⟩)) hoL (by omega) (by omega) 61
    rw [Nat.sub_zero] at h5
    simp only [simB, zbo, Nat.reduceBEq, own0, ↓reduceIte, Nat.reduceEqDiff, Nat.reduceAdd, zdv, zdw, zdx, zdy, zdz, zea, zeb, zec, ia22, ld31, zed, zee, h0, h1, h7, h5, h6, q1, e9]
    have hq : val l / val m = val o ∧ val l % val m = r := by
      rw [Nat.pow_zero, Nat.div_one] at hA
      rw [Nat.pow_zero, Nat.mul_one] at hQ
      rw [hA, hQ, Nat.mul_comm]
      constructor
      · rw [Nat.mul_add_div (by omega), Nat.div_eq_of_lt hr, Nat.add_zero]
      · rw [Nat.mul_add_mod, Nat.mod_eq_of_lt hr]
    rw [hq.1, hq.2]
    exact finish_FQ _ _ _ _ _ _ _ _ _ _ (by simp only [zfp, ↓reduceIte, Nat.reduceEqDiff]) (by simp only [zfp, ↓reduceIte]) rfl
  · obtain ⟨y, rfl⟩ : ∃ y, x = y + 1 := ⟨x - 1, by omega⟩
    have p2 : ((y + 1 : Nat) : Int) - 1 = (y : Int) := by omega
    rw [p2] at h7
    have p6 : (y : Int) ≥ 0 := by omega
    have p3 : ((y / 32 : Nat) : Int) < l.length := by omega
    have p4 : y / 32 < l.length := by omega
    have p7 : (0 : Int) ≤ ((y / 32 : Nat) : Int) := by omega
    have g0 := i_sub Tryz.prog 3 (y : Int) 1 (by omega) (by omega)
    have g1 := i_quo Tryz.prog 3 y 32 (by decide) (by omega)
    have g2 := i_rem Tryz.prog 3 y 32 (by decide)
    rw [show ((32 : Nat) : Int) = 32 from rfl] at g1 g2
    have h900 : B ^ m.length * 4 ≤ B ^ (m.length + 1) := by
      rw [Nat.pow_succ]
      exact Nat.mul_le_mul_left _ (by decide)
    have hk1 : m.length + 1 ≤ 1000 := by omega
    have hrB : r < B ^ (m.length + 1) := by generalize B ^ (m.length + 1) = b1 at *; generalize B ^ m.length = b2 at *; omega
    have hr2 : r * 2 ^ 1 < B ^ (m.length + 1) := by generalize B ^ (m.length + 1) = b1 at *; generalize B ^ m.length = b2 at *; omega
    have hr3 : r * 2 ^ 1 + 1 < B ^ (m.length + 1) := by generalize B ^ (m.length + 1) = b1 at *; generalize B ^ m.length = b2 at *; omega
    have nq : Num (encQ (bl - (y + 1)) r) r := encQ_num _ r _ hk1 hrB (fun h => hr0 (by omega))
    have c3 := fun D s => rcShl n (d + 1) hn D s nq 1
    rw [shn_1] at c3
    have e10 : ∀ s, convA Tryz.prog 3 97 s (.int .i64 ((y % 32 : Nat) : Int)) = some (.int .u64 ((y % 32 : Nat) : Int)) := fun s => conv3_42 s _ (by omega)
    have hlw := getD_lt l hl (y / 32)
    have g3 := s_shr Tryz.prog 57 (l.getD (y / 32) 0) .u64 ((y % 32 : Nat) : Int) (by omega) (by omega)
    rw [Int.toNat_natCast] at g3
    have g4 := s_and1 Tryz.prog 57 (l.getD (y / 32) 0 / 2 ^ (y % 32)) (Nat.lt_of_le_of_lt (Nat.div_le_self _ _) hlw)
    rw [bit_limb l hl] at g4
    have hbit := div_pow1 (val l) y
    have hb01 : val l / 2 ^ y % 2 < 2 := Nat.mod_lt _ (by decide)
    generalize val l / 2 ^ y % 2 = bit at *
    rw [hA] at hbit
    -- the remainder with the next bit
    have one1 : Num (.sl [.int .u32 1] 1 .tight) 1 := ⟨[1], ⟨_, rfl⟩, limbs_one (by decide), by decide, rfl⟩
    have c4 := fun D s => rcAdd n (d + 1) hn D s (num_F (r * 2 ^ 1) _ hk1 hr2) one1
    have hnew : val l / 2 ^ y = 2 * Q * val m + (r * 2 ^ 1 + bit) := by
      rw [hbit, Nat.mul_add, Nat.mul_assoc]; omega
    have hr4 : r * 2 ^ 1 + bit < B ^ (m.length + 1) := by generalize B ^ (m.length + 1) = b1 at *; omega
    have c5 := fun D s => rcCmp n (d + 1) hn D s (num_F (r * 2 ^ 1 + bit) _ hk1 hr4) nm
    have c6 := fun D s => rcSub n d hn D s (num_F (r * 2 ^ 1 + bit) _ hk1 hr4) nm
    have t1 := ia_own s 15 1 _ l.length .i64 ((y / 32 : Nat) : Int) hs p7 p3
    rw [Int.toNat_natCast] at t1
    have t2 := ld_own s 15 1 o (y / 32) hs (by omega)
    have t3 := s_shl1 Tryz.prog 57 .u64 (y % 32) (Nat.mod_lt _ (by decide))
    have hob := or_bit o hoL y Q hQ
    have t4 := s_or Tryz.prog 57 (o.getD (y / 32) 0) (2 ^ (y % 32)) (getD_lt o hoL _) (show 2 ^ (y % 32) < 2 ^ 32 from Nat.pow_lt_pow_right (by decide) (Nat.mod_lt _ (by decide)))
    have t5 := st31 s 15 1 _ (y / 32) (o.getD (y / 32) 0 ||| 2 ^ (y % 32)) hs (by omega)
    have hset := div_set o hoL y Q (by omega) hQ
    have hQ2 : val o = 2 * Q * 2 ^ y := by rw [hQ, pow1, Nat.mul_comm 2 Q, Nat.mul_assoc]
    have hbp : bl - y ≠ 0 := by omega
    by_cases hbz : bit = 0
    · have p5 : ((bit : Int) == 1) = false := by rw [hbz]; rfl
      have hb0 : r * 2 ^ 1 + bit = r * 2 ^ 1 := by omega
      rw [hb0] at c5 c6 hnew
      by_cases hlt : r * 2 ^ 1 < val m
      · have z1 : ¬ cmpZ (r * 2 ^ 1) (val m) ≥ 0 := by have := (cmpZ_lt (r * 2 ^ 1) (val m)).mpr hlt; omega
        simp only [simB, zbo, Nat.reduceBEq, own0, ↓reduceIte, Nat.reduceEqDiff, Nat.reduceAdd, zdv, zdw, zdx, zdy, zdz, zea, zeb, zec, ia22, ld31, zed, zee, h0, h1, h7, h5, h6, p6, c3, g1, g2, e10, p7, p3, p4, Int.toNat_natCast, g3, bit_limb l hl, g4, p5, c5, z1, g0]
        refine ih (y, r * 2 ^ 1, o, 2 * Q) _ _ (by simp only; omega) rfl ⟨?_, ?_, ?_, ?_, ?_, hs, ?_, hlt, ?_, hol, hoL, hQ2, hnew⟩
        · simp only [zfp, ↓reduceIte, Nat.reduceEqDiff, h0]
        · simp only [zfp, ↓reduceIte, Nat.reduceEqDiff, h1]
        · simp only [zfp, ↓reduceIte, Nat.reduceEqDiff]
        · simp only [zfp, ↓reduceIte, Nat.reduceEqDiff, encQ_pos _ _ hbp]
        · simp only [zfp, ↓reduceIte, Nat.reduceEqDiff, h6]
        · simp only; omega
        · simp only; omega
      · have z1 : cmpZ (r * 2 ^ 1) (val m) ≥ 0 := Int.not_lt.mp fun h => hlt ((cmpZ_lt _ _).mp h)
        rw [encS, if_neg hlt] at c6
        simp only [simB, zbo, Nat.reduceBEq, own0, ↓reduceIte, Nat.reduceEqDiff, Nat.reduceAdd, zdv, zdw, zdx, zdy, zdz, zea, zeb, zec, ia22, ld31, zed, zee, h0, h1, h7, h5, h6, p6, c3, g1, g2, e10, p7, p3, p4, Int.toNat_natCast, g3, bit_limb l hl, g4, p5, c5, z1, g0, c6, t1, t2, t3, t4, t5]
        refine ih (y, r * 2 ^ 1 - val m, o.set (y / 32) (o.getD (y / 32) 0 ||| 2 ^ (y % 32)), 2 * Q + 1) _ _ (by simp only; omega) rfl ⟨?_, ?_, ?_, ?_, ?_, ?_, ?_, ?_, ?_, ?_, ?_, hset, ?_⟩
        · simp only [zfp, ↓reduceIte, Nat.reduceEqDiff, h0]
        · simp only [zfp, ↓reduceIte, Nat.reduceEqDiff, h1]
        · simp only [zfp, ↓reduceIte, Nat.reduceEqDiff]
        · simp only [zfp, ↓reduceIte, Nat.reduceEqDiff, encQ_pos _ _ hbp]
        · simp only [zfp, ↓reduceIte, Nat.reduceEqDiff, h6]
        · rw [upd_self]
        · simp only; omega
        · simp only; omega
        · simp only; omega
        · simp only [List.length_set]; exact hol
        · exact limbs_set _ hoL _ _ hob.2
        · simp only; rw [hnew, Nat.add_mul, Nat.one_mul]; omega
    · have hb1 : bit = 1 := by omega
      have p5 : ((bit : Int) == 1) = true := by rw [hb1]; rfl
      rw [hb1] at c5 c6 hnew
      by_cases hlt : r * 2 ^ 1 + 1 < val m
      · have z1 : ¬ cmpZ (r * 2 ^ 1 + 1) (val m) ≥ 0 := by have := (cmpZ_lt (r * 2 ^ 1 + 1) (val m)).mpr hlt; omega
        simp only [simB, zbo, Nat.reduceBEq, own0, ↓reduceIte, Nat.reduceEqDiff, Nat.reduceAdd, zdv, zdw, zdx, zdy, zdz, zea, zeb, zec, ia22, ld31, zed, zee, h0, h1, h7, h5, h6, p6, c3, g1, g2, e10, p7, p3, p4, Int.toNat_natCast, g3, bit_limb l hl, g4, p5, opA_one, one22_int, c4, c5, z1, g0]
        refine ih (y, r * 2 ^ 1 + 1, o, 2 * Q) _ _ (by simp only; omega) rfl ⟨?_, ?_, ?_, ?_, ?_, hs, ?_, hlt, ?_, hol, hoL, hQ2, hnew⟩
        · simp only [zfp, ↓reduceIte, Nat.reduceEqDiff, h0]
        · simp only [zfp, ↓reduceIte, Nat.reduceEqDiff, h1]
        · simp only [zfp, ↓reduceIte, Nat.reduceEqDiff]
        · simp only [zfp, ↓reduceIte, Nat.reduceEqDiff, encQ_pos _ _ hbp]
        · simp only [zfp, ↓reduceIte, Nat.reduceEqDiff, h6]
        · simp only; omega
        · simp only; omega
      · have z1 : cmpZ (r * 2 ^ 1 + 1) (val m) ≥ 0 := Int.not_lt.mp fun h => hlt ((cmpZ_lt _ _).mp h)
        rw [encS, if_neg hlt] at c6
        simp only [simB, zbo, Nat.reduceBEq, own0, ↓reduceIte, Nat.reduceEqDiff, Nat.reduceAdd, zdv, zdw, zdx, zdy, zdz, zea, zeb, zec, ia22, ld31, zed, zee, h0, h1, h7, h5, h6, p6, c3, g1, g2, e10, p7, p3, p4, Int.toNat_natCast, g3, bit_limb l hl, g4, p5, opA_one, one22_int, c4, c5, z1, g0, c6, t1, t2, t3, t4, t5]
        refine ih (y, r * 2 ^ 1 + 1 - val m, o.set (y / 32) (o.getD (y / 32) 0 ||| 2 ^ (y % 32)), 2 * Q + 1) _ _ (by simp only; omega) rfl ⟨?_, ?_, ?_, ?_, ?_, ?_, ?_, ?_, ?_, ?_, ?_, hset, ?_⟩
        · simp only [zfp, ↓reduceIte, Nat.reduceEqDiff, h0]
        · simp only [zfp, ↓reduceIte, Nat.reduceEqDiff, h1]
        · simp only [zfp, ↓reduceIte, Nat.reduceEqDiff]
        · simp only [zfp, ↓reduceIte, Nat.reduceEqDiff, encQ_pos _ _ hbp]
        · simp only [zfp, ↓reduceIte, Nat.reduceEqDiff, h6]
        · rw [upd_self]
        · simp only; omega
        · simp only; omega
        · simp only; omega
        · simp only [List.length_set]; exact hol
        · exact limbs_set _ hoL _ _ hob.2
        · simp only; rw [hnew, Nat.add_mul, Nat.one_mul]; omega
end Go.Ab

/- The reference's sums, products, quotients of numbers. Conditions: limbs in range. -/
namespace Go.Ab
open Go.Proofs
set_option maxRecDepth 100000
set_option linter.unusedSimpArgs false

theorem madeF_eq (z : Int) : madeF z = .tup [encA (decide ((mkZ z).1 < 0)) (gm z) (digs (mkZ z).1.natAbs), .bool (mkZ z).2] := rfl
theorem tree_F (v : Nat) : isTree (encF v) = true := rfl
section
variable (n d : Nat) (hn : 100000 ≤ n)
include hn
theorem rqMade {w : AV} {v : Nat} (h : Num w v) (ht : isTree w = true) (neg : Bool) : callQ (evalFn Tryz.prog cfg0 n (d+2)) 82 [.bool neg, w] = some (madeF (sgn neg v)) := qRmade n d hn h ht neg
theorem rqAdd {w w' : AV} {v v' : Nat} (h : Num w v) (h' : Num w' v') (ht : isTree w = true) (ht' : isTree w' = true) : callQ (evalFn Tryz.prog cfg0 n (d+2)) 109 [w, w'] = some (encF (v + v')) := by
  obtain ⟨g, l, rfl, hl, hk, rfl⟩ := h.isL ht
  obtain ⟨g', l', rfl, hl', hk', rfl⟩ := h'.isL ht'
  exact callQ_trees (by cases g <;> cases g' <;> rfl) (radd_eq n d g g' l l' hl hl' (by omega) (by omega) (by omega) (by omega))
theorem rqSub {w w' : AV} {v v' : Nat} (h : Num w v) (h' : Num w' v') (ht : isTree w = true) (ht' : isTree w' = true) : callQ (evalFn Tryz.prog cfg0 n (d+3)) 110 [w, w'] = some (encS v v') := by
  obtain ⟨g, l, rfl, hl, hk, rfl⟩ := h.isL ht
  obtain ⟨g', l', rfl, hl', hk', rfl⟩ := h'.isL ht'
  exact callQ_trees (by cases g <;> cases g' <;> rfl) (rsub_eq n d g g' l l' hl hl' (by omega) (by omega) (by omega) (by omega))
theorem rqMul {w w' : AV} {v v' : Nat} (h : Num w v) (h' : Num w' v') (ht : isTree w = true) (ht' : isTree w' = true) : callQ (evalFn Tryz.prog cfg0 n (d+2)) 83 [w, w'] = some (encF (v * v')) := by
  obtain ⟨g, l, rfl, hl, hk, rfl⟩ := h.isL ht
  obtain ⟨g', l', rfl, hl', hk', rfl⟩ := h'.isL ht'
  exact callQ_trees (by cases g <;> cases g' <;> rfl) (rmul_eq n d g g' l l' hl hl' (by omega) (by omega) (by omega))
end
theorem encS_num (x y : Nat) (h : y ≤ x) : encS x y = encF (x - y) := if_neg (by omega)
set_option maxHeartbeats 4000000 in
theorem rnadd_eq (n d : Nat) (hn : 100000 ≤ n) (g g' : Gk) (z z' : Int) (hlt : z.natAbs < B ^ 12) (hlt' : z'.natAbs < B ^ 12) : evalFn Tryz.prog cfg0 n (d+5) 80 [.tree (canA g z), .tree (canA g' z')] = some (.tree (madeF (z + z')), [[], []]) := by
  rw [evalFn_go _ Tryz.func80 (by unfold Tryz.f80; rfl) (by unfold Tryz.f80; decide) (Nat.le_of_ble_eq_true (by unfold Tryz.f80; rfl)) (by kernel_rfl)]
  have c1 := fun D s => rcCmp n (d + 2) hn D s (num_can g z hlt) (num_can g' z' hlt')
  have eb := bool_eql 4 tk4
  by_cases hs : decide (z < 0) = decide (z' < 0)
  · have hsb : (decide (z < 0) == decide (z' < 0)) = true := by rw [beq_iff_eq]; exact hs
    have c2 := rqAdd n (d + 2) hn (num_can g z hlt) (num_can g' z' hlt') (tree_L _ _) (tree_L _ _)
    have c3 := rqMade n (d + 2) hn (num_F _ 13 (by decide) (lt13 hlt hlt')) (tree_F _) (decide (z < 0))
    rw [add_same z z' hs] at c3
    simp only [simB, zbo, Nat.reduceBEq, own0, ↓reduceIte, Nat.reduceEqDiff, Nat.reduceAdd, env0, List.getElem?_cons_zero, List.getElem?_cons_succ, zdv, zdw, zdx, zdy, zdz, zea, zeb, zec, ia22, ld31, zed, zee, zef, zeg, zeh, zei, zej, zek, zel, zem, zen, zeo, zep, zeq, zer, fa_0, fa_1, zes, bd_0, bd_2, zet, fd_1, zeu, Nat.zero_add, st0_2, c1, eb, hsb, c2, c3, madeF_eq, ext_0, ext_1, zeq]
    exact finish_ct _ _ 4 4 1 _ _ _ _ _ _ _ (by simp only [zfp, ↓reduceIte, Nat.reduceEqDiff]) (by simp only [zfp, ↓reduceIte, Nat.reduceEqDiff]) (by simp only [zfp, ↓reduceIte, Nat.reduceEqDiff]) rfl
  · have hsb : (decide (z < 0) == decide (z' < 0)) = false := by rw [beq_eq_false_iff_ne]; exact hs
    by_cases hc : z.natAbs < z'.natAbs
    · have hz : ¬ cmpZ z.natAbs z'.natAbs ≥ 0 := by have := (cmpZ_lt _ _).mpr hc; omega
      have c2 := rqSub n (d + 1) hn (num_can g' z' hlt') (num_can g z hlt) (tree_L _ _) (tree_L _ _)
      rw [encS_num _ _ (by omega)] at c2
      have c3 := rqMade n (d + 2) hn (num_F (z'.natAbs - z.natAbs) 12 (by decide) (by omega)) (tree_F _) (decide (z' < 0))
      rw [add_less z z' hs hc] at c3
      simp only [simB, zbo, Nat.reduceBEq, own0, ↓reduceIte, Nat.reduceEqDiff, Nat.reduceAdd, env0, List.getElem?_cons_zero, List.getElem?_cons_succ, zdv, zdw, zdx, zdy, zdz, zea, zeb, zec, ia22, ld31, zed, zee, zef, zeg, zeh, zei, zej, zek, zel, zem, zen, zeo, zep, zeq, zer, fa_0, fa_1, zes, bd_0, bd_2, zet, fd_1, zeu, Nat.zero_add, st0_2, c1, eb, hsb, hz, c2, c3, madeF_eq, ext_0, ext_1, zeq]
      exact finish_ct _ _ 4 4 1 _ _ _ _ _ _ _ (by simp only [zfp, ↓reduceIte, Nat.reduceEqDiff]) (by simp only [zfp, ↓reduceIte, Nat.reduceEqDiff]) (by simp only [zfp, ↓reduceIte, Nat.reduceEqDiff]) rfl
    · have hz : cmpZ z.natAbs z'.natAbs ≥ 0 := by
        have : ¬ cmpZ z.natAbs z'.natAbs < 0 := fun h => hc ((cmpZ_lt _ _).mp h)
        omega
      have c2 := rqSub n (d + 1) hn (num_can g z hlt) (num_can g' z' hlt') (tree_L _ _) (tree_L _ _)
      rw [encS_num _ _ (by omega)] at c2
      have c3 := rqMade n (d + 2) hn (num_F (z.natAbs - z'.natAbs) 12 (by decide) (by omega)) (tree_F _) (decide (z < 0))
      rw [add_more z z' hs hc] at c3
      simp only [simB, zbo, Nat.reduceBEq, own0, ↓reduceIte, Nat.reduceEqDiff, Nat.reduceAdd, env0, List.getElem?_cons_zero, List.getElem?_cons_succ, zdv, zdw, zdx, zdy, zdz, zea, zeb, zec, ia22, ld31, zed, zee, zef, zeg, zeh, zei, zej, zek, zel, zem, zen, zeo, zep, zeq, zer, fa_0, fa_1, zes, bd_0, bd_2, zet, fd_1, zeu, Nat.zero_add, st0_2, c1, eb, hsb, hz, c2, c3, madeF_eq, ext_0, ext_1, zeq]
      exact finish_ct _ _ 4 4 1 _ _ _ _ _ _ _ (by simp only [zfp, ↓reduceIte, Nat.reduceEqDiff]) (by simp only [zfp, ↓reduceIte, Nat.reduceEqDiff]) (by simp only [zfp, ↓reduceIte, Nat.reduceEqDiff]) rfl
theorem rcAddC (n d : Nat) (hn : 100000 ≤ n) (g g' : Gk) (z z' : Int) (hlt : z.natAbs < B ^ 12) (hlt' : z'.natAbs < B ^ 12) (D : Nat) (s : St) : callA cfg0 (evalFn Tryz.prog cfg0 n (d+5)) D s 80 [canA g z, canA g' z'] = some (madeF (z + z'), s) :=
  callA_trees rfl (rnadd_eq n d hn g g' z z' hlt hlt')
theorem rqAddC (n d : Nat) (hn : 100000 ≤ n) (g g' : Gk) (z z' : Int) (hlt : z.natAbs < B ^ 12) (hlt' : z'.natAbs < B ^ 12) : callQ (evalFn Tryz.prog cfg0 n (d+5)) 80 [canA g z, canA g' z'] = some (madeF (z + z')) :=
  callQ_trees rfl (rnadd_eq n d hn g g' z z' hlt hlt')
theorem rcDiv (n d : Nat) (hn : 100000 ≤ n) (g g' : Gk) (z z' : Int) (hlt : z.natAbs < B ^ 12) (hlt' : z'.natAbs < B ^ 12) (h0 : z'.natAbs ≠ 0) (D : Nat) (s : St) : callA cfg0 (evalFn Tryz.prog cfg0 n (d+5)) D s 84 [encL g (digs z.natAbs), encL g' (digs z'.natAbs)] = some (.tup [encF (z.natAbs / z'.natAbs), encQ (blen z.natAbs) (z.natAbs % z'.natAbs)], s) := by
  have h := rdiv_eq n (d + 1) g g' (digs z.natAbs) (digs z'.natAbs) (limbs_digs _) (limbs_digs _) hn (by have := digs_len _ 12 hlt; omega) (by have := digs_len _ 12 hlt'; omega)
  rw [val_digs, val_digs, divR, if_neg h0] at h
  exact callA_L2 _ _ _ _ _ _ _ _ _ h
section
variable (n d : Nat) (hn : 100000 ≤ n) {w w' : AV} {z z' : Int} (hw : IsN w z) (hw' : IsN w' z')
include hn hw hw'
set_option maxHeartbeats 8000000
theorem rop1_eq : evalFn Tryz.prog cfg0 n (d+6) 51 [.tree (.int .i64 1), .tree w, .tree w'] = some (.tree (madeF (z + z')), [[], [], []]) := by
  obtain ⟨g, c1⟩ := qRis n (d + 3) hw
  obtain ⟨g', c2⟩ := qRis n (d + 3) hw'
  have hlt := hw.lt
  have hlt' := hw'.lt
  obtain ⟨neg, g0, l, rfl, hl, hz⟩ := hw
  obtain ⟨neg', g0', l', rfl, hl', hz'⟩ := hw'
  rw [evalFn_go _ Tryz.func51 (by unfold Tryz.f51; rfl) (by unfold Tryz.f51; decide) (Nat.le_of_ble_eq_true (by unfold Tryz.f51; rfl)) (by kernel_rfl)]
  have c3 := fun D s => rcAddC n d hn g g' z z' hlt hlt' D s
  simp only [simB, zbo, Nat.reduceBEq, own0, ↓reduceIte, Nat.reduceEqDiff, Nat.reduceAdd, env0, List.getElem?_cons_zero, List.getElem?_cons_succ, zdv, zdw, zdx, zdy, zdz, zea, zeb, zec, ia22, ld31, zed, zee, zef, zeg, zeh, zei, zej, zek, zel, zem, zen, zeo, zep, zeq, zer, fa_0, fa_1, zes, bd_0, bd_2, zet, fd_1, zeu, Nat.zero_add, st0_3', c1, c2, Int.reduceBEq, c3, madeF_eq, ext_0, ext_1, zeq]
  exact finish_ct _ _ 6 6 1 _ _ _ _ _ _ _ (by simp only [zfp, ↓reduceIte, Nat.reduceEqDiff]) (by simp only [zfp, ↓reduceIte, Nat.reduceEqDiff]) (by simp only [zfp, ↓reduceIte, Nat.reduceEqDiff]) rfl
theorem rop2_eq : evalFn Tryz.prog cfg0 n (d+6) 51 [.tree (.int .i64 2), .tree w, .tree w'] = some (.tree (madeF (z - z')), [[], [], []]) := by
  obtain ⟨g, c1⟩ := qRis n (d + 3) hw
  obtain ⟨g', c2⟩ := qRis n (d + 3) hw'
  have hlt := hw.lt
  have hlt' := hw'.lt
  obtain ⟨neg, g0, l, rfl, hl, hz⟩ := hw
  obtain ⟨neg', g0', l', rfl, hl', hz'⟩ := hw'
  rw [evalFn_go _ Tryz.func51 (by unfold Tryz.f51; rfl) (by unfold Tryz.f51; decide) (Nat.le_of_ble_eq_true (by unfold Tryz.f51; rfl)) (by kernel_rfl)]
  have c4 := qRneg n (d + 2) hn (isN_can g' z' hlt')
  have c3 := rqAddC n d hn g .l z (-z') hlt (by omega)
  rw [show z + -z' = z - z' by omega] at c3
  simp only [simB, zbo, Nat.reduceBEq, own0, ↓reduceIte, Nat.reduceEqDiff, Nat.reduceAdd, env0, List.getElem?_cons_zero, List.getElem?_cons_succ, zdv, zdw, zdx, zdy, zdz, zea, zeb, zec, ia22, ld31, zed, zee, zef, zeg, zeh, zei, zej, zek, zel, zem, zen, zeo, zep, zeq, zer, fa_0, fa_1, zes, bd_0, bd_2, zet, fd_1, zeu, Nat.zero_add, st0_3', c1, c2, Int.reduceBEq, c4, c3, madeF_eq, ext_0, ext_1, zeq]
  exact finish_ct _ _ 6 6 1 _ _ _ _ _ _ _ (by simp only [zfp, ↓reduceIte, Nat.reduceEqDiff]) (by simp only [zfp, ↓reduceIte, Nat.reduceEqDiff]) (by simp only [zfp, ↓reduceIte, Nat.reduceEqDiff]) rfl
theorem rop3_eq : evalFn Tryz.prog cfg0 n (d+6) 51 [.tree (.int .i64 3), .tree w, .tree w'] = some (.tree (madeF (z * z')), [[], [], []]) := by
  obtain ⟨g, c1⟩ := qRis n (d + 3) hw
  obtain ⟨g', c2⟩ := qRis n (d + 3) hw'
  have hlt := hw.lt
  have hlt' := hw'.lt
  obtain ⟨neg, g0, l, rfl, hl, hz⟩ := hw
  obtain ⟨neg', g0', l', rfl, hl', hz'⟩ := hw'
  rw [evalFn_go _ Tryz.func51 (by unfold Tryz.f51; rfl) (by unfold Tryz.f51; decide) (Nat.le_of_ble_eq_true (by unfold Tryz.f51; rfl)) (by kernel_rfl)]
  have en := bool_neq 4 tk4
  have c3 := rqMul n (d + 3) hn (num_can g z hlt) (num_can g' z' hlt') (tree_L _ _) (tree_L _ _)
  have hp : z.natAbs * z'.natAbs < B ^ 24 := by rw [show (24 : Nat) = 12 + 12 from rfl, Nat.pow_add]; exact Nat.mul_lt_mul'' hlt hlt'
  have c4 := rqMade n (d + 3) hn (num_F _ 24 (by decide) hp) (tree_F _) (!(decide (z < 0) == decide (z' < 0)))
  rw [mul_sgn] at c4
  simp only [simB, zbo, Nat.reduceBEq, own0, ↓reduceIte, Nat.reduceEqDiff, Nat.reduceAdd, env0, List.getElem?_cons_zero, List.getElem?_cons_succ, zdv, zdw, zdx, zdy, zdz, zea, zeb, zec, ia22, ld31, zed, zee, zef, zeg, zeh, zei, zej, zek, zel, zem, zen, zeo, zep, zeq, zer, fa_0, fa_1, zes, bd_0, bd_2, zet, fd_1, zeu, Nat.zero_add, st0_3', c1, c2, Int.reduceBEq, en, c3, c4, madeF_eq, ext_0, ext_1, zeq]
  exact finish_ct _ _ 6 6 1 _ _ _ _ _ _ _ (by simp only [zfp, ↓reduceIte, Nat.reduceEqDiff]) (by simp only [zfp, ↓reduceIte, Nat.reduceEqDiff]) (by simp only [zfp, ↓reduceIte, Nat.reduceEqDiff]) rfl
theorem rop4_eq : evalFn Tryz.prog cfg0 n (d+6) 51 [.tree (.int .i64 4), .tree w, .tree w'] = some (.tree (if z' = 0 then .tup [encA false .n [], .bool false] else madeF (z.tdiv z')), [[], [], []]) := by
  obtain ⟨g, c1⟩ := qRis n (d + 3) hw
  obtain ⟨g', c2⟩ := qRis n (d + 3) hw'
  have hlt := hw.lt
  have hlt' := hw'.lt
  obtain ⟨neg, g0, l, rfl, hl, hz⟩ := hw
  obtain ⟨neg', g0', l', rfl, hl', hz'⟩ := hw'
  rw [evalFn_go _ Tryz.func51 (by unfold Tryz.f51; rfl) (by unfold Tryz.f51; decide) (Nat.le_of_ble_eq_true (by unfold Tryz.f51; rfl)) (by kernel_rfl)]
  by_cases h0 : z' = 0
  · have p0 : (((digs z'.natAbs).length : Int) == 0) = true := by rw [h0]; simp [digs_0]
    rw [if_pos h0]
    simp only [simB, zbo, Nat.reduceBEq, own0, ↓reduceIte, Nat.reduceEqDiff, Nat.reduceAdd, env0, List.getElem?_cons_zero, List.getElem?_cons_succ, zdv, zdw, zdx, zdy, zdz, zea, zeb, zec, ia22, ld31, zed, zee, zef, zeg, zeh, zei, zej, zek, zel, zem, zen, zeo, zep, zeq, zer, fa_0, fa_1, zes, bd_0, bd_2, zet, fd_1, zeu, Nat.zero_add, st0_3', c1, c2, Int.reduceBEq, p0]
    exact finish_ct _ _ 6 6 1 _ _ _ _ _ _ _ (by simp only [zfp, ↓reduceIte, Nat.reduceEqDiff]) (by simp only [zfp, ↓reduceIte, Nat.reduceEqDiff]) (by simp only [zfp, ↓reduceIte, Nat.reduceEqDiff]) rfl
  · have p0 : (((digs z'.natAbs).length : Int) == 0) = false := by
      rw [beq_eq_false_iff_ne]
      intro h
      have := (digs_len0 z'.natAbs).mp (by omega)
      omega
    rw [if_neg h0]
    have en := bool_neq 4 tk4
    have hz0 : z'.natAbs ≠ 0 := by omega
    have c3 := fun D s => rcDiv n d hn g g' z z' hlt hlt' hz0 D s
    have c4 := fun D s => cRmade n (d + 3) hn D s (num_F (z.natAbs / z'.natAbs) 12 (by decide) (Nat.lt_of_le_of_lt (Nat.div_le_self _ _) hlt)) (!(decide (z < 0) == decide (z' < 0)))
    rw [quo_sgn] at c4
    simp only [simB, zbo, Nat.reduceBEq, own0, ↓reduceIte, Nat.reduceEqDiff, Nat.reduceAdd, env0, List.getElem?_cons_zero, List.getElem?_cons_succ, zdv, zdw, zdx, zdy, zdz, zea, zeb, zec, ia22, ld31, zed, zee, zef, zeg, zeh, zei, zej, zek, zel, zem, zen, zeo, zep, zeq, zer, fa_0, fa_1, zes, bd_0, bd_2, zet, fd_1, zeu, Nat.zero_add, st0_3', c1, c2, Int.reduceBEq, p0, en, c3, c4, madeF_eq, ext_0, ext_1, zeq]
    exact finish_ct _ _ 6 6 1 _ _ _ _ _ _ _ (by simp only [zfp, ↓reduceIte, Nat.reduceEqDiff]) (by simp only [zfp, ↓reduceIte, Nat.reduceEqDiff]) (by simp only [zfp, ↓reduceIte, Nat.reduceEqDiff]) rfl
theorem rop5_eq : evalFn Tryz.prog cfg0 n (d+6) 51 [.tree (.int .i64 5), .tree w, .tree w'] = some (.tree (if z' = 0 then .tup [encA false .n [], .bool false] else madeF (z.tmod z')), [[], [], []]) := by
  obtain ⟨g, c1⟩ := qRis n (d + 3) hw
  obtain ⟨g', c2⟩ := qRis n (d + 3) hw'
  have hlt := hw.lt
  have hlt' := hw'.lt
  obtain ⟨neg, g0, l, rfl, hl, hz⟩ := hw
  obtain ⟨neg', g0', l', rfl, hl', hz'⟩ := hw'
  rw [evalFn_go _ Tryz.func51 (by unfold Tryz.f51; rfl) (by unfold Tryz.f51; decide) (Nat.le_of_ble_eq_true (by unfold Tryz.f51; rfl)) (by kernel_rfl)]
  by_cases h0 : z' = 0
  · have p0 : (((digs z'.natAbs).length : Int) == 0) = true := by rw [h0]; simp [digs_0]
    rw [if_pos h0]
    simp only [simB, zbo, Nat.reduceBEq, own0, ↓reduceIte, Nat.reduceEqDiff, Nat.reduceAdd, env0, List.getElem?_cons_zero, List.getElem?_cons_succ, zdv, zdw, zdx, zdy, zdz, zea, zeb, zec, ia22, ld31, zed, zee, zef, zeg, zeh, zei, zej, zek, zel, zem, zen, zeo, zep, zeq, zer, fa_0, fa_1, zes, bd_0, bd_2, zet, fd_1, zeu, Nat.zero_add, st0_3', c1, c2, Int.reduceBEq, p0]
    exact finish_ct _ _ 6 6 1 _ _ _ _ _ _ _ (by simp only [zfp, ↓reduceIte, Nat.reduceEqDiff]) (by simp only [zfp, ↓reduceIte, Nat.reduceEqDiff]) (by simp only [zfp, ↓reduceIte, Nat.reduceEqDiff]) rfl
  · have p0 : (((digs z'.natAbs).length : Int) == 0) = false := by
      rw [beq_eq_false_iff_ne]
      intro h
      have := (digs_len0 z'.natAbs).mp (by omega)
      omega
    rw [if_neg h0]
    have hz0 : z'.natAbs ≠ 0 := by omega
    have c3 := fun D s => rcDiv n d hn g g' z z' hlt hlt' hz0 D s
    have c4 := fun D s => cRmade n (d + 3) hn D s (encQ_num (blen z.natAbs) (z.natAbs % z'.natAbs) 12 (by decide) (Nat.lt_of_le_of_lt (Nat.mod_le _ _) hlt) (fun hb => by rw [(blen_eq0 _).mp hb, Nat.zero_mod])) (decide (z < 0))
    rw [rem_sgn] at c4
    simp only [simB, zbo, Nat.reduceBEq, own0, ↓reduceIte, Nat.reduceEqDiff, Nat.reduceAdd, env0, List.getElem?_cons_zero, List.getElem?_cons_succ, zdv, zdw, zdx, zdy, zdz, zea, zeb, zec, ia22, ld31, zed, zee, zef, zeg, zeh, zei, zej, zek, zel, zem, zen, zeo, zep, zeq, zer, fa_0, fa_1, zes, bd_0, bd_2, zet, fd_1, zeu, Nat.zero_add, st0_3', c1, c2, Int.reduceBEq, p0, c3, c4, madeF_eq, ext_0, ext_1, zeq]
    exact finish_ct _ _ 6 6 1 _ _ _ _ _ _ _ (by simp only [zfp, ↓reduceIte, Nat.reduceEqDiff]) (by simp only [zfp, ↓reduceIte, Nat.reduceEqDiff]) (by simp only [zfp, ↓reduceIte, Nat.reduceEqDiff]) rfl
end
end Go.Ab

/- Bits of numbers with signs, as so many limbs: plain arithmetic. -/
namespace Go.Ab
theorem val_not (l : List Nat) (h : Limbs l) : val (l.map (4294967295 - ·)) + val l + 1 = B ^ l.length := by
  induction l with
  | nil => rfl
  | cons x l ih =>
    have hx := h.head
    have := ih h.tail
    simp only [List.map_cons, val, List.length_cons, Nat.pow_succ]
    rw [← this]
    have hx' : x < 4294967296 := hx
    show 4294967295 - x + 4294967296 * val (l.map (4294967295 - ·)) + (x + 4294967296 * val l) + 1 = (val (l.map (4294967295 - ·)) + val l + 1) * 4294967296
    omega
theorem limbs_not (l : List Nat) : Limbs (l.map (4294967295 - ·)) := fun x hx => by
  obtain ⟨y, _, rfl⟩ := List.mem_map.mp hx
  omega
/-- Two limbs put together. -/
def wordN (op a b : Nat) : Nat := if op = 6 then a &&& b else if op = 7 then a ||| b else a ^^^ b
theorem wordN_lt (op : Nat) {a b n : Nat} (ha : a < 2 ^ n) (hb : b < 2 ^ n) : wordN op a b < 2 ^ n := by
  unfold wordN
  split
  · exact Nat.lt_of_le_of_lt Nat.and_le_left ha
  · split
    · exact Nat.or_lt_two_pow ha hb
    · exact Nat.xor_lt_two_pow ha hb
theorem wordN_split (op a b c d : Nat) (ha : a < B) (hb : b < B) : wordN op (a + B * c) (b + B * d) = wordN op a b + B * wordN op c d := by
  have hB : B = 2 ^ 32 := rfl
  have key : ∀ f : Nat → Nat → Nat, (∀ x y, f x y % 2 ^ 32 = f (x % 2 ^ 32) (y % 2 ^ 32)) → (∀ x y, f x y / 2 ^ 32 = f (x / 2 ^ 32) (y / 2 ^ 32)) → f (a + B * c) (b + B * d) = f a b + B * f c d := by
    intro f h1 h2
    have e := Nat.mod_add_div (f (a + B * c) (b + B * d)) (2 ^ 32)
    rw [h1, h2] at e
    rw [← e, hB]
    have ma : (a + 2 ^ 32 * c) % 2 ^ 32 = a := by rw [Nat.add_mul_mod_self_left]; exact Nat.mod_eq_of_lt ha
    have mb : (b + 2 ^ 32 * d) % 2 ^ 32 = b := by rw [Nat.add_mul_mod_self_left]; exact Nat.mod_eq_of_lt hb
    have da : (a + 2 ^ 32 * c) / 2 ^ 32 = c := by rw [Nat.add_mul_div_left _ _ (by decide), Nat.div_eq_of_lt ha, Nat.zero_add]
    have db : (b + 2 ^ 32 * d) / 2 ^ 32 = d := by rw [Nat.add_mul_div_left _ _ (by decide), Nat.div_eq_of_lt hb, Nat.zero_add]
    rw [ma, mb, da, db]
  unfold wordN
  split
  · exact key (· &&& ·) (fun x y => Nat.and_mod_two_pow) (fun x y => Nat.and_div_two_pow)
  · split
    · exact key (· ||| ·) (fun x y => Nat.or_mod_two_pow) (fun x y => Nat.or_div_two_pow)
    · exact key (· ^^^ ·) (fun x y => Nat.xor_mod_two_pow) (fun x y => Nat.xor_div_two_pow)
theorem wordN_00 (op : Nat) : wordN op 0 0 = 0 := by unfold wordN; split <;> (try split) <;> rfl
theorem val_zip (op : Nat) : ∀ (x y : List Nat), Limbs x → Limbs y → x.length = y.length → val (List.zipWith (wordN op) x y) = wordN op (val x) (val y)
  | [], [], _, _, _ => (wordN_00 op).symm
  | [], _ :: _, _, _, h => by simp at h
  | _ :: _, [], _, _, h => by simp at h
  | a :: x, b :: y, hx, hy, h => by
    have ih := val_zip op x y hx.tail hy.tail (by simpa using h)
    simp only [List.zipWith_cons_cons, val, ih]
    exact (wordN_split op a b (val x) (val y) hx.head hy.head).symm
theorem limbs_zip (op : Nat) (x y : List Nat) (hx : Limbs x) (hy : Limbs y) : Limbs (List.zipWith (wordN op) x y) := by
  induction x generalizing y with
  | nil => intro z hz; simp at hz
  | cons a x ih =>
    cases y with
    | nil => intro z hz; simp at hz
    | cons b y => exact limbs_cons (wordN_lt op (n := 32) hx.head hy.head) (ih y hx.tail hy.tail)
/-- A number's bits, with all bits above as its sign. -/
def tcZ (z : Int) : Nat := if z < 0 then B ^ 13 - z.natAbs else z.natAbs
/-- The number of such bits. -/
def unZ (r : Nat) : Int := if r / B ^ 12 / 2 ^ 31 = 0 then (r : Int) else -((B ^ 13 - r : Nat) : Int)
def logZ (op : Nat) (a b : Int) : Int := unZ (wordN op (tcZ a) (tcZ b))
theorem top_limb (l : List Nat) (h : Limbs l) (hl : l.length = 13) : val l / B ^ 12 = l.getD 12 0 := by
  have h1 := digit l h 12
  have h2 := val_lt l h
  rw [hl] at h2
  have h3 : val l / B ^ 12 < B := by
    rw [Nat.div_lt_iff_lt_mul (Nat.pow_pos (by decide)), Nat.mul_comm, ← Nat.pow_succ]; exact h2
  rw [Nat.mod_eq_of_lt h3] at h1
  exact h1
end Go.Ab

/- Bits with all ones, with nought, with themselves: plain arithmetic. -/
namespace Go.Ab
section
variable (n x : Nat) (h : x < 2 ^ n)
include h
theorem sub_bit (i : Nat) : (2 ^ n - 1 - x).testBit i = (decide (i < n) && !x.testBit i) := by
  rw [show 2 ^ n - 1 - x = 2 ^ n - (x + 1) by omega]
  exact Nat.testBit_two_pow_sub_succ h i
end
section
variable (z : Int) (h : z.natAbs < B ^ 12)
include h
end
end Go.Ab

/- And, or, exclusive or together, of numbers with room: plain arithmetic. -/
namespace Go.Ab
theorem wordN_at (n op a b c d : Nat) (ha : a < 2 ^ n) (hb : b < 2 ^ n) : wordN op (a + 2 ^ n * c) (b + 2 ^ n * d) = wordN op a b + 2 ^ n * wordN op c d := by
  have hp := Nat.two_pow_pos n
  have key : ∀ f : Nat → Nat → Nat, (∀ x y, f x y % 2 ^ n = f (x % 2 ^ n) (y % 2 ^ n)) → (∀ x y, f x y / 2 ^ n = f (x / 2 ^ n) (y / 2 ^ n)) → f (a + 2 ^ n * c) (b + 2 ^ n * d) = f a b + 2 ^ n * f c d := by
    intro f h1 h2
    have e := Nat.mod_add_div (f (a + 2 ^ n * c) (b + 2 ^ n * d)) (2 ^ n)
    rw [h1, h2] at e
    rw [← e]
    have ma : (a + 2 ^ n * c) % 2 ^ n = a := by rw [Nat.add_mul_mod_self_left]; exact Nat.mod_eq_of_lt ha
    have mb : (b + 2 ^ n * d) % 2 ^ n = b := by rw [Nat.add_mul_mod_self_left]; exact Nat.mod_eq_of_lt hb
    have da : (a + 2 ^ n * c) / 2 ^ n = c := by rw [Nat.add_mul_div_left _ _ hp, Nat.div_eq_of_lt ha, Nat.zero_add]
    have db : (b + 2 ^ n * d) / 2 ^ n = d := by rw [Nat.add_mul_div_left _ _ hp, Nat.div_eq_of_lt hb, Nat.zero_add]
    rw [ma, mb, da, db]
  unfold wordN
  split
  · exact key (· &&& ·) (fun x y => Nat.and_mod_two_pow) (fun x y => Nat.and_div_two_pow)
  · split
    · exact key (· ||| ·) (fun x y => Nat.or_mod_two_pow) (fun x y => Nat.or_div_two_pow)
    · exact key (· ^^^ ·) (fun x y => Nat.xor_mod_two_pow) (fun x y => Nat.xor_div_two_pow)
/-- Below 0? -/
def sgB (z : Int) : Nat := if z < 0 then 1 else 0
theorem sg_cases (z : Int) : sgB z = 0 ∨ sgB z = 1 := by unfold sgB; split <;> simp
theorem ones_op (n op a b : Nat) (ha : a = 0 ∨ a = 1) (hb : b = 0 ∨ b = 1) : wordN op (a * (2 ^ n - 1)) (b * (2 ^ n - 1)) = wordN op a b * (2 ^ n - 1) ∧ (wordN op a b = 0 ∨ wordN op a b = 1) := by
  have hf : 2 ^ n - 1 < 2 ^ n := by have := Nat.two_pow_pos n; omega
  generalize hF : 2 ^ n - 1 = F at *
  have e1 : F &&& F = F := Nat.and_self F
  have e2 : F ||| F = F := Nat.or_self F
  unfold wordN
  rcases ha with rfl | rfl <;> rcases hb with rfl | rfl <;> (split <;> (try split)) <;> simp
end Go.Ab

/- Bits of numbers below 0, in so many bits as have room. Pure mathematics. -/
namespace Go.Ab
def loN (n : Nat) (z : Int) : Nat := if z < 0 then 2 ^ n - z.natAbs else z.natAbs
def logW (n op : Nat) (a b : Int) : Int := (wordN op (loN n a) (loN n b) : Int) - (wordN op (sgB a) (sgB b) : Int) * ((2 ^ n : Nat) : Int)
theorem loN_lt {n : Nat} {z : Int} (h : z.natAbs < 2 ^ n) : loN n z < 2 ^ n := by
  unfold loN
  by_cases hz : z < 0
  · rw [if_pos hz]; omega
  · rw [if_neg hz]; exact h
theorem loN_more (n m : Nat) {z : Int} (h : z.natAbs < 2 ^ n) : loN (n + m) z = loN n z + 2 ^ n * (sgB z * (2 ^ m - 1)) := by
  have hq : 0 < 2 ^ m := Nat.two_pow_pos m
  unfold loN sgB
  rw [Nat.pow_add]
  generalize 2 ^ n = p at *
  generalize 2 ^ m = q at *
  by_cases hz : z < 0
  · rw [if_pos hz, if_pos hz, if_pos hz, Nat.one_mul, Nat.mul_sub, Nat.mul_one]
    have : p * 1 ≤ p * q := Nat.mul_le_mul_left _ hq
    omega
  · rw [if_neg hz, if_neg hz, if_neg hz, Nat.zero_mul, Nat.mul_zero]; omega
theorem word_more (n m op : Nat) {a b : Int} (ha : a.natAbs < 2 ^ n) (hb : b.natAbs < 2 ^ n) : wordN op (loN (n + m) a) (loN (n + m) b) = wordN op (loN n a) (loN n b) + 2 ^ n * (wordN op (sgB a) (sgB b) * (2 ^ m - 1)) := by
  rw [loN_more n m ha, loN_more n m hb, wordN_at n op _ _ _ _ (loN_lt ha) (loN_lt hb), (ones_op m op (sgB a) (sgB b) (sg_cases a) (sg_cases b)).1]
theorem word_sg (op : Nat) (a b : Int) : wordN op (sgB a) (sgB b) = 0 ∨ wordN op (sgB a) (sgB b) = 1 := (ones_op 1 op (sgB a) (sgB b) (sg_cases a) (sg_cases b)).2
theorem word_lo (n op : Nat) {a b : Int} (ha : a.natAbs < 2 ^ n) (hb : b.natAbs < 2 ^ n) : wordN op (loN n a) (loN n b) < 2 ^ n := wordN_lt op (loN_lt ha) (loN_lt hb)
theorem logW_more (n m op : Nat) {a b : Int} (ha : a.natAbs < 2 ^ n) (hb : b.natAbs < 2 ^ n) : logW (n + m) op a b = logW n op a b := by
  unfold logW
  rw [word_more n m op ha hb]
  have hq : 0 < 2 ^ m := Nat.two_pow_pos m
  rcases word_sg op a b with h | h
  · rw [h]; simp
  · rw [h, Nat.one_mul, Nat.pow_add, Nat.mul_sub, Nat.mul_one]
    have h1 : 2 ^ n * 1 ≤ 2 ^ n * 2 ^ m := Nat.mul_le_mul_left _ hq
    omega
theorem logZ_k (k op : Nat) (p12 : B ^ 12 = 2 ^ k) (p13 : B ^ 13 = 2 ^ (k + 32)) {a b : Int} (ha : a.natAbs < 2 ^ k) (hb : b.natAbs < 2 ^ k) : logZ op a b = logW k op a b := by
  have ta : ∀ z : Int, tcZ z = loN (k + 32) z := fun z => by unfold tcZ loN; rw [p13]
  unfold logZ
  rw [ta, ta, word_more k 32 op ha hb]
  have hw := word_lo k op ha hb
  unfold logW unZ
  rw [p13, p12, Nat.pow_add]
  generalize wordN op (loN k a) (loN k b) = W at *
  have hp : 0 < 2 ^ k := Nat.two_pow_pos _
  generalize (2 : Nat) ^ k = p at *
  rcases word_sg op a b with h | h
  · rw [h, Nat.zero_mul, Nat.mul_zero, Nat.add_zero, Nat.div_eq_of_lt hw, Nat.zero_div, if_pos rfl]; simp
  · rw [h, Nat.one_mul, Nat.add_mul_div_left _ _ hp, Nat.div_eq_of_lt hw, Nat.zero_add, if_neg (by decide)]
    omega
theorem logZ_n (n op : Nat) (hn : n ≤ 32 * 12) {a b : Int} (ha : a.natAbs < 2 ^ n) (hb : b.natAbs < 2 ^ n) : logZ op a b = logW n op a b := by
  obtain ⟨k, hk⟩ : ∃ k, k = 32 * 12 := ⟨_, rfl⟩
  have p12 : B ^ 12 = 2 ^ k := by rw [hk]; exact B_pow 12
  have p13 : B ^ 13 = 2 ^ (k + 32) := by rw [show k + 32 = 32 * 13 by omega]; exact B_pow 13
  rw [← hk] at hn
  obtain ⟨m, rfl⟩ : ∃ m, k = n + m := ⟨k - n, by omega⟩
  have hp : (2 : Nat) ^ n ≤ 2 ^ (n + m) := Nat.pow_le_pow_right (by decide) (Nat.le_add_right _ _)
  rw [logZ_k (n + m) op p12 p13 (Nat.lt_of_lt_of_le ha hp) (Nat.lt_of_lt_of_le hb hp)]
  exact logW_more n m op ha hb
end Go.Ab

/- The reference's bits of numbers. Pure mathematics. -/
namespace Go.Ab
def f3 (op : Nat) (p q : Bool) : Bool := if op = 6 then p && q else if op = 7 then p || q else !(p == q)
theorem word_bit (op a b y : Nat) : (wordN op a b).testBit y = f3 op (a.testBit y) (b.testBit y) := by
  unfold wordN f3
  split
  · rw [Nat.testBit_and]
  · split
    · rw [Nat.testBit_or]
    · rw [Nat.testBit_xor]
      cases a.testBit y <;> cases b.testBit y <;> rfl
def lessN (z : Int) : Nat := if z < 0 then z.natAbs - 1 else z.natAbs
def bitZ (z : Int) (y : Nat) : Bool := !((lessN z).testBit y == decide (z < 0))
theorem less_lt {N : Nat} {z : Int} (h : z.natAbs < 2 ^ N) : lessN z < 2 ^ N := by unfold lessN; split <;> omega
theorem lo_bit {N y : Nat} {z : Int} (h : z.natAbs < 2 ^ N) (hy : y < N) : (loN N z).testBit y = bitZ z y := by
  unfold bitZ loN
  by_cases hz : z < 0
  · rw [if_pos hz, decide_eq_true hz]
    have e : 2 ^ N - z.natAbs = 2 ^ N - 1 - lessN z := by unfold lessN; rw [if_pos hz]; omega
    rw [e, sub_bit N (lessN z) (less_lt h) y, decide_eq_true hy]
    cases (lessN z).testBit y <;> rfl
  · rw [if_neg hz, decide_eq_false hz]
    have e : z.natAbs = lessN z := by unfold lessN; rw [if_neg hz]
    rw [e]
    cases (lessN z).testBit y <;> rfl
def joinZ (op : Nat) (a b : Int) : Bool := f3 op (decide (a < 0)) (decide (b < 0))
theorem word_join (op : Nat) (a b : Int) : wordN op (sgB a) (sgB b) = if joinZ op a b = true then 1 else 0 := by
  unfold joinZ sgB
  by_cases ha : a < 0 <;> by_cases hb : b < 0 <;> simp only [ha, hb, if_true, if_false, decide_true, decide_false] <;> (unfold wordN f3; by_cases h6 : op = 6 <;> by_cases h7 : op = 7 <;> simp only [h6, h7, if_true, if_false] <;> rfl)
def tgt (N op : Nat) (a b : Int) : Nat := if joinZ op a b = true then 2 ^ N - 1 - wordN op (loN N a) (loN N b) else wordN op (loN N a) (loN N b)
section
variable {N op : Nat} {a b : Int} (ha : a.natAbs < 2 ^ N) (hb : b.natAbs < 2 ^ N)
include ha hb
theorem tgt_lt : tgt N op a b < 2 ^ N := by
  have := word_lo N op ha hb
  unfold tgt; split <;> omega
theorem tgt_bit {y : Nat} (hy : y < N) : (tgt N op a b).testBit y = !(f3 op (bitZ a y) (bitZ b y) == joinZ op a b) := by
  have hw := word_lo N op ha hb
  have e : (wordN op (loN N a) (loN N b)).testBit y = f3 op (bitZ a y) (bitZ b y) := by rw [word_bit, lo_bit ha hy, lo_bit hb hy]
  unfold tgt
  by_cases hj : joinZ op a b = true
  · rw [if_pos hj, hj, sub_bit N _ hw y, decide_eq_true hy, e]
    cases f3 op (bitZ a y) (bitZ b y) <;> rfl
  · rw [if_neg hj, e, eq_false_of_ne_true hj]
    cases f3 op (bitZ a y) (bitZ b y) <;> rfl
theorem tgt_val : sgn (joinZ op a b) (if joinZ op a b = true then tgt N op a b + 1 else tgt N op a b) = logW N op a b := by
  have hw := word_lo N op ha hb
  unfold logW
  rw [word_join]
  unfold tgt
  by_cases hj : joinZ op a b = true
  · rw [if_pos hj, if_pos hj, if_pos hj, hj]
    unfold sgn
    simp only [if_true]
    omega
  · rw [if_neg hj, if_neg hj, if_neg hj, eq_false_of_ne_true hj]
    unfold sgn
    simp
end
theorem logZ_any (N op : Nat) {a b : Int} (ha : a.natAbs < 2 ^ N) (hb : b.natAbs < 2 ^ N) (ha' : a.natAbs < B ^ 12) (hb' : b.natAbs < B ^ 12) : logZ op a b = logW N op a b := by
  obtain ⟨k, hk⟩ : ∃ k, k = 32 * 12 := ⟨_, rfl⟩
  rcases Nat.lt_or_ge k N with h | h
  · have p12 : B ^ 12 = 2 ^ k := by rw [hk]; exact B_pow 12
    rw [p12] at ha' hb'
    rw [logZ_n k op (by omega) ha' hb']
    obtain ⟨m, rfl⟩ : ∃ m, N = k + m := ⟨N - k, by omega⟩
    exact (logW_more k m op ha' hb').symm
  · exact logZ_n N op (by omega) ha hb
/-- One bit more. -/
theorem or_low (o : List Nat) (h : Limbs o) (y : Nat) (hv : val o < 2 ^ y) : (o.getD (y / 32) 0 ||| 2 ^ (y % 32)) = o.getD (y / 32) 0 + 2 ^ (y % 32) ∧ (o.getD (y / 32) 0 ||| 2 ^ (y % 32)) < 4294967296 := by
  have hr : y % 32 < 32 := Nat.mod_lt _ (by decide)
  constructor
  · have hd := digit o h (y / 32)
    have e : 2 ^ y = B ^ (y / 32) * 2 ^ (y % 32) := by rw [B_pow, ← Nat.pow_add, Nat.div_add_mod]
    rw [e] at hv
    have hq : val o / B ^ (y / 32) < 2 ^ (y % 32) := Nat.div_lt_of_lt_mul hv
    have hlt : o.getD (y / 32) 0 < 2 ^ (y % 32) := by rw [← hd]; exact Nat.lt_of_le_of_lt (Nat.mod_le _ _) hq
    have h3 := Nat.two_pow_add_eq_or_of_lt hlt 1
    rw [Nat.mul_one] at h3
    rw [Nat.or_comm, ← h3, Nat.add_comm]
  · refine Nat.or_lt_two_pow (n := 32) ?_ (Nat.pow_lt_pow_right (by decide) hr)
    exact getD_lt' o h (y / 32)
theorem set_low (o : List Nat) (h : Limbs o) (y : Nat) (hi : y / 32 < o.length) (hv : val o < 2 ^ y) : val (o.set (y / 32) (o.getD (y / 32) 0 ||| 2 ^ (y % 32))) = val o + 2 ^ y := by
  have h1 := val_set o (y / 32) (o.getD (y / 32) 0 ||| 2 ^ (y % 32)) hi
  rw [(or_low o h y hv).1, Nat.mul_add, B_pow, ← Nat.pow_add, Nat.div_add_mod] at h1
  rw [(or_low o h y hv).1]
  omega
theorem next_bit (T y : Nat) : T % 2 ^ (y + 1) = T % 2 ^ y + (if T.testBit y = true then 2 ^ y else 0) := by
  rw [Nat.mod_pow_succ, Nat.testBit_eq_decide_div_mod_eq]
  have := Nat.mod_two_eq_zero_or_one (T / 2 ^ y)
  rcases this with h | h <;> rw [h] <;> simp
end Go.Ab

/- The reference's bits: and, or, exclusive or, bit by bit. Conditions: limbs in range. -/
namespace Go.Ab
open Go.Proofs
set_option maxRecDepth 100000
set_option linter.unusedSimpArgs false

theorem func3_eq (n d op : Nat) (ho : op = 6 ∨ op = 7 ∨ op = 8) (p q : Bool) : evalFn Tryz.prog cfg0 n (d+1) 115 [.tree (.int .i64 (op : Int)), .tree (.bool p), .tree (.bool q)] = some (.tree (.bool (f3 op p q)), [[], [], []]) := by
  rw [evalFn_go _ Tryz.func115 (by unfold Tryz.f115; rfl) (by unfold Tryz.f115; decide) (Nat.le_of_ble_eq_true (by unfold Tryz.f115; rfl)) (by kernel_rfl)]
  have en := bool_neq 4 tk4
  rcases ho with rfl | rfl | rfl
  · have f6 : (((6 : Nat) : Int) == 6) = true := rfl
    cases p <;> simp only [simB, zbo, Nat.reduceBEq, own0, ↓reduceIte, Nat.reduceEqDiff, Nat.reduceAdd, env0, List.getElem?_cons_zero, List.getElem?_cons_succ, zdv, zdw, zdx, zdy, zdz, zea, zeb, zec, ia22, ld31, zed, zee, zef, zeg, zeh, zei, zej, zek, zel, zem, zen, zeo, zep, zeq, zer, fa_0, fa_1, zes, bd_0, bd_2, zet, fd_1, zeu, Nat.zero_add, st0_3', f6] <;> exact finish_b _ _ _ _ _ _ _ (by simp only [zfp, ↓reduceIte]; rfl) rfl
  · have f6 : (((7 : Nat) : Int) == 6) = false := rfl
    have f7 : (((7 : Nat) : Int) == 7) = true := rfl
    cases p <;> simp only [simB, zbo, Nat.reduceBEq, own0, ↓reduceIte, Nat.reduceEqDiff, Nat.reduceAdd, env0, List.getElem?_cons_zero, List.getElem?_cons_succ, zdv, zdw, zdx, zdy, zdz, zea, zeb, zec, ia22, ld31, zed, zee, zef, zeg, zeh, zei, zej, zek, zel, zem, zen, zeo, zep, zeq, zer, fa_0, fa_1, zes, bd_0, bd_2, zet, fd_1, zeu, Nat.zero_add, st0_3', f6, f7] <;> exact finish_b _ _ _ _ _ _ _ (by simp only [zfp, ↓reduceIte]; rfl) rfl
  · have f6 : (((8 : Nat) : Int) == 6) = false := rfl
    have f7 : (((8 : Nat) : Int) == 7) = false := rfl
    simp only [simB, zbo, Nat.reduceBEq, own0, ↓reduceIte, Nat.reduceEqDiff, Nat.reduceAdd, env0, List.getElem?_cons_zero, List.getElem?_cons_succ, zdv, zdw, zdx, zdy, zdz, zea, zeb, zec, ia22, ld31, zed, zee, zef, zeg, zeh, zei, zej, zek, zel, zem, zen, zeo, zep, zeq, zer, fa_0, fa_1, zes, bd_0, bd_2, zet, fd_1, zeu, Nat.zero_add, st0_3', f6, f7, en]
    exact finish_b _ _ _ _ _ _ _ (by simp only [zfp, ↓reduceIte]; rfl) rfl
def lessG (g : Gk) (z : Int) : Gk := if z < 0 then .l else g
set_option maxHeartbeats 4000000 in
theorem rless_eq (n d : Nat) (hn : 100000 ≤ n) (g : Gk) (z : Int) (hlt : z.natAbs < B ^ 12) : evalFn Tryz.prog cfg0 n (d+4) 114 [.tree (canA g z)] = some (.tree (encL (lessG g z) (digs (lessN z))), [[]]) := by
  rw [evalFn_go _ Tryz.func114 (by unfold Tryz.f114; rfl) (by unfold Tryz.f114; decide) (Nat.le_of_ble_eq_true (by unfold Tryz.f114; rfl)) (by kernel_rfl)]
  by_cases hz : z < 0
  · have one1 : Num (.sl [.int .u32 1] 1 .tight) 1 := ⟨[1], ⟨_, rfl⟩, limbs_one (by decide), by decide, rfl⟩
    have c1 := fun D s => rcSub n d hn D s (num_can g z hlt) one1
    rw [encS_num _ _ (by omega)] at c1
    rw [lessG, if_pos hz, lessN, if_pos hz]
    simp only [simB, zbo, Nat.reduceBEq, own0, ↓reduceIte, Nat.reduceEqDiff, Nat.reduceAdd, env0, List.getElem?_cons_zero, List.getElem?_cons_succ, zdv, zdw, zdx, zdy, zdz, zea, zeb, zec, ia22, ld31, zed, zee, zef, zeg, zeh, zei, zej, zek, zel, zem, zen, zeo, zep, zeq, zer, fa_0, fa_1, zes, bd_0, bd_2, zet, fd_1, zeu, Nat.zero_add, st0_1, hz, opA_one, one22_int, c1]
    exact finish_F _ _ _ _ _ _ _ (by simp only [zfp, ↓reduceIte]) rfl
  · rw [lessG, if_neg hz, lessN, if_neg hz]
    simp only [simB, zbo, Nat.reduceBEq, own0, ↓reduceIte, Nat.reduceEqDiff, Nat.reduceAdd, env0, List.getElem?_cons_zero, List.getElem?_cons_succ, zdv, zdw, zdx, zdy, zdz, zea, zeb, zec, ia22, ld31, zed, zee, zef, zeg, zeh, zei, zej, zek, zel, zem, zen, zeo, zep, zeq, zer, fa_0, fa_1, zes, bd_0, bd_2, zet, fd_1, zeu, Nat.zero_add, st0_1, hz]
    exact finish_L _ _ _ _ _ _ _ _ (by simp only [zfp, ↓reduceIte]) rfl
set_option maxHeartbeats 4000000 in
theorem rbit_eq (n d : Nat) (g g' : Gk) (z : Int) (l : List Nat) (hl : Limbs l) (y : Nat) (hy : y ≤ 1000000) (_ : l.length ≤ 1000000) : evalFn Tryz.prog cfg0 n (d+1) 116 [.tree (canA g z), .tree (encL g' l), .tree (.int .i64 (y : Int))] = some (.tree (.bool (!((val l).testBit y == decide (z < 0)))), [[], [], []]) := by
  rw [evalFn_go _ Tryz.func116 (by unfold Tryz.f116; rfl) (by unfold Tryz.f116; decide) (Nat.le_of_ble_eq_true (by unfold Tryz.f116; rfl)) (by kernel_rfl)]
  have en := bool_neq 4 tk4
  have g1 := i_quo Tryz.prog 3 y 32 (by decide) (by omega)
  have g2 := i_rem Tryz.prog 3 y 32 (by decide)
  rw [show ((32 : Nat) : Int) = 32 from rfl] at g1 g2
  have p7 : (0 : Int) ≤ ((y / 32 : Nat) : Int) := by omega
  by_cases h : y / 32 < l.length
  · have p3 : ((y / 32 : Nat) : Int) < l.length := by omega
    have e10 : ∀ s, convA Tryz.prog 3 97 s (.int .i64 ((y % 32 : Nat) : Int)) = some (.int .u64 ((y % 32 : Nat) : Int)) := fun s => conv3_42 s _ (by omega)
    have hlw := getD_lt l hl (y / 32)
    have g3 := s_shr Tryz.prog 57 (l.getD (y / 32) 0) .u64 ((y % 32 : Nat) : Int) (by omega) (by omega)
    rw [Int.toNat_natCast] at g3
    have g4 := s_and1 Tryz.prog 57 (l.getD (y / 32) 0 / 2 ^ (y % 32)) (Nat.lt_of_le_of_lt (Nat.div_le_self _ _) hlw)
    rw [bit_limb l hl] at g4
    have ht : (((val l / 2 ^ y % 2 : Nat) : Int) == 1) = (val l).testBit y := by
      rw [Nat.testBit_eq_decide_div_mod_eq]
      have := Nat.mod_two_eq_zero_or_one (val l / 2 ^ y)
      rcases this with h | h <;> rw [h] <;> rfl
    simp only [simB, zbo, Nat.reduceBEq, own0, ↓reduceIte, Nat.reduceEqDiff, Nat.reduceAdd, env0, List.getElem?_cons_zero, List.getElem?_cons_succ, zdv, zdw, zdx, zdy, zdz, zea, zeb, zec, ia22, ld31, zed, zee, zef, zeg, zeh, zei, zej, zek, zel, zem, zen, zeo, zep, zeq, zer, fa_0, fa_1, zes, bd_0, bd_2, zet, fd_1, zeu, Nat.zero_add, st0_3', g1, g2, p3, p7, h, e10, Int.toNat_natCast, g3, bit_limb l hl, g4, ht, en]
    exact finish_b _ _ _ _ _ _ _ (by simp only [zfp, ↓reduceIte]) rfl
  · have p3 : ¬ ((y / 32 : Nat) : Int) < l.length := by omega
    have hb : (val l).testBit y = false := by
      rw [Nat.testBit_eq_decide_div_mod_eq, Nat.div_eq_of_lt (Nat.lt_of_lt_of_le (val_lt l hl) (B_le _ _ (by omega)))]
      rfl
    rw [hb]
    simp only [simB, zbo, Nat.reduceBEq, own0, ↓reduceIte, Nat.reduceEqDiff, Nat.reduceAdd, env0, List.getElem?_cons_zero, List.getElem?_cons_succ, zdv, zdw, zdx, zdy, zdz, zea, zeb, zec, ia22, ld31, zed, zee, zef, zeg, zeh, zei, zej, zek, zel, zem, zen, zeo, zep, zeq, zer, fa_0, fa_1, zes, bd_0, bd_2, zet, fd_1, zeu, Nat.zero_add, st0_3', g1, g2, p3, p7, en]
    exact finish_b _ _ _ _ _ _ _ (by simp only [zfp, ↓reduceIte]) rfl
end Go.Ab

/- The reference's bits: the walk. Conditions: limbs in range. -/
namespace Go.Ab
open Go.Proofs
set_option maxRecDepth 100000
set_option linter.unusedSimpArgs false

theorem rmade_own (n d : Nat) (hn : 100000 ≤ n) (D : Nat) (s : St) (b : Bool) (p t : Nat) (o : List Nat) (len : Nat) (hp : s p = ⟨t, .buf (encC o)⟩) (hl : o.length = len) (hk : len ≤ 1000) (hL : Limbs o) : callA cfg0 (evalFn Tryz.prog cfg0 n (d+2)) D s 82 [.bool b, .own p t 0 len 1] = some (madeF (sgn b (val o)), upd s p ⟨t, .frz (encC o)⟩) := by
  subst hl
  have this := rmade_eq n d b .l o hL (by omega) (by omega)
  rw [show encL .l o = .sl (encC o) o.length .loose from rfl] at this
  have hf : flatR (.tree (madeF (sgn b (val o)))) = false := rfl
  have ht : (encC o).take o.length = encC o := List.take_of_length_le (by rw [encC_len]; exact Nat.le_refl _)
  have hfz : frzAt s p = upd s p ⟨t, .frz (encC o)⟩ := by unfold frzAt; rw [hp]
  simp [callA, argsA, argA, cellsAt, hp, ht, encC_len, givesL, lendsL, givesOf, lendsOf, this, hf, backA, resA, hfz, lin0]
theorem radd_own1 (n d : Nat) (hn : 100000 ≤ n) (D : Nat) (s : St) (p t : Nat) (o : List Nat) (len : Nat) (hp : s p = ⟨t, .buf (encC o)⟩) (hl : o.length = len) (hk : len ≤ 1000) (hL : Limbs o) : callA cfg0 (evalFn Tryz.prog cfg0 n (d+2)) D s 109 [.own p t 0 len 1, .sl [.int .u32 1] 1 .tight] = some (encF (val o + 1), upd s p ⟨t, .frz (encC o)⟩) := by
  subst hl
  have this := radd_eq n d .l .t o [1] hL (limbs_one (by decide)) (by omega) (by simp; omega) (by omega) (by simp)
  rw [show encL .l o = .sl (encC o) o.length .loose from rfl, show encL .t [1] = .sl [.int .u32 1] 1 .tight from rfl, show val [1] = 1 from rfl] at this
  have hf : flatR (.tree (encF (val o + 1))) = false := rfl
  have ht : (encC o).take o.length = encC o := List.take_of_length_le (by rw [encC_len]; exact Nat.le_refl _)
  have hfz : frzAt s p = upd s p ⟨t, .frz (encC o)⟩ := by unfold frzAt; rw [hp]
  simp [callA, argsA, argA, cellsAt, hp, ht, encC_len, givesL, lendsL, givesOf, lendsOf, this, hf, backA, resA, hfz, lin0]
theorem less_abs (z : Int) : z.natAbs ≤ lessN z + 1 := by unfold lessN; split <;> omega
theorem less_le (z : Int) : lessN z ≤ z.natAbs := by unfold lessN; split <;> omega
theorem abs_pow (z : Int) (L : Nat) (h : (digs (lessN z)).length < L) : z.natAbs < 2 ^ (32 * L) := by
  have h1 := val_lt (digs (lessN z)) (limbs_digs _)
  rw [val_digs, B_pow] at h1
  have h2 : 2 ^ (32 * (digs (lessN z)).length) < 2 ^ (32 * L) := Nat.pow_lt_pow_right (by decide) (by omega)
  have h3 := less_abs z
  omega
set_option maxHeartbeats 16000000 in
theorem rlog_eq (n d : Nat) (hn : 100000 ≤ n) (op : Nat) (hop : op = 6 ∨ op = 7 ∨ op = 8) (g g' : Gk) (z z' : Int) (hlt : z.natAbs < B ^ 12) (hlt' : z'.natAbs < B ^ 12) : evalFn Tryz.prog cfg0 n (d+5) 85 [.tree (.int .i64 (op : Int)), .tree (canA g z), .tree (canA g' z')] = some (.tree (madeF (logZ op z z')), [[], [], []]) := by
  rw [evalFn_go _ Tryz.func85 (by unfold Tryz.f85; rfl) (by unfold Tryz.f85; decide) (Nat.le_of_ble_eq_true (by unfold Tryz.f85; rfl)) (by kernel_rfl)]
  have b1 := callQ_trees (f := 114) (vs := [canA g z]) rfl (rless_eq n d hn g z hlt)
  have b2 := callQ_trees (f := 114) (vs := [canA g' z']) rfl (rless_eq n d hn g' z' hlt')
  have f0 := fun (p q : Bool) D s => callA_trees (cfg := cfg0) (d := D) (s := s) (f := 115) (vs := [.int .i64 (op : Int), .bool p, .bool q]) rfl (func3_eq n (d + 3) op hop p q)
  have f1 := fun (p q : Bool) => callQ_trees (f := 115) (vs := [.int .i64 (op : Int), .bool p, .bool q]) rfl (func3_eq n (d + 3) op hop p q)
  have hx : (digs (lessN z)).length ≤ 12 := digs_len _ 12 (Nat.lt_of_le_of_lt (less_le z) hlt)
  have hy : (digs (lessN z')).length ≤ 12 := digs_len _ 12 (Nat.lt_of_le_of_lt (less_le z') hlt')
  have t1 := fun (y : Nat) (hy : y ≤ 1000000) => callQ_trees (f := 116) (vs := [canA g z, encL (lessG g z) (digs (lessN z)), .int .i64 (y : Int)]) (by cases h : lessG g z <;> rfl) (rbit_eq n (d + 3) g (lessG g z) z (digs (lessN z)) (limbs_digs _) y hy (by omega))
  have t2 := fun (y : Nat) (hy : y ≤ 1000000) => callQ_trees (f := 116) (vs := [canA g' z', encL (lessG g' z') (digs (lessN z')), .int .i64 (y : Int)]) (by cases h : lessG g' z' <;> rfl) (rbit_eq n (d + 3) g' (lessG g' z') z' (digs (lessN z')) (limbs_digs _) y hy (by omega))
  simp only [val_digs] at t1 t2
  have mx := max_eq (digs (lessN z)).length (digs (lessN z')).length
  obtain ⟨m, hm⟩ : ∃ m, max (digs (lessN z)).length (digs (lessN z')).length = m := ⟨_, rfl⟩
  rw [hm] at mx
  have hm12 : m ≤ 12 := by omega
  have a1 := i_add Tryz.prog 3 (m : Int) 1 (by omega) (by omega)
  obtain ⟨L, hL⟩ : ∃ L, L = m + 1 := ⟨_, rfl⟩
  rw [show (m : Int) + 1 = (L : Int) by omega] at a1
  have a2 := i_mul Tryz.prog 3 32 (L : Int) (by omega) (by omega)
  rw [show (32 : Int) * (L : Int) = ((32 * L : Nat) : Int) by omega] at a2
  have a3 := i_quo Tryz.prog 3 (32 * L) 32 (by decide) (by omega)
  rw [Nat.mul_div_cancel_left L (by decide), show ((32 : Nat) : Int) = 32 from rfl] at a3
  have mk := fun s => make22 33 s (L : Int) (by omega) (by omega)
  simp only [Int.toNat_natCast] at mk
  have hza := abs_pow z L (by omega)
  have hzb := abs_pow z' L (by omega)
  have jn : f3 op (decide (z < 0)) (decide (z' < 0)) = joinZ op z z' := rfl
  simp only [simB, zbo, Nat.reduceBEq, own0, ↓reduceIte, Nat.reduceEqDiff, Nat.reduceAdd, env0, List.getElem?_cons_zero, List.getElem?_cons_succ, zdv, zdw, zdx, zdy, zdz, zea, zeb, zec, ia22, ld31, zed, zee, zef, zeg, zeh, zei, zej, zek, zel, zem, zen, zeo, zep, zeq, zer, fa_0, fa_1, zes, bd_0, bd_2, zet, fd_1, zeu, Nat.zero_add, st0_3', b1, b2, f0, jn, mx, a1, a2, a3, mk, den_loop]
  have hlog := tgt_val (op := op) hza hzb
  rw [← logZ_any (32 * L) op hza hzb hlt hlt'] at hlog
  have hT := tgt_lt (op := op) hza hzb
  have hbit := fun y hy => tgt_bit (op := op) (y := y) hza hzb hy
  rw [← hlog]
  clear b1 b2 mx a1 a2 a3 mk hlog
  refine loop_ends (X := Nat × List Nat) (fun x env s => env 0 = .int .i64 (op : Int) ∧ env 4 = .ptr 4 1 0 ∧ env 5 = .ptr 5 1 0 ∧ env 6 = .ptr 6 1 0 ∧ env 8 = encL (lessG g z) (digs (lessN z)) ∧ env 9 = encL (lessG g' z') (digs (lessN z')) ∧ env 10 = .bool (joinZ op z z') ∧ env 11 = .int .i64 ((32 * L : Nat) : Int) ∧ env 12 = .own 33 1 0 L 1 ∧ env 13 = .int .i64 (x.1 : Int) ∧ s 4 = ⟨1, .buf [.bool (decide (z < 0)), encL g (digs z.natAbs)]⟩ ∧ s 5 = ⟨1, .buf [.bool (decide (z' < 0)), encL g' (digs z'.natAbs)]⟩ ∧ s 6 = ⟨1, .buf [.bool false, .sl [] 0 .nil]⟩ ∧ s 33 = ⟨1, .buf (encC x.2)⟩ ∧ x.1 ≤ 32 * L ∧ x.2.length = L ∧ Limbs x.2 ∧ val x.2 = tgt (32 * L) op z z' % 2 ^ x.1) (fun x => 32 * L - x.1) (fun _ => (.tree (madeF (sgn (joinZ op z z') (if joinZ op z z' = true then tgt (32 * L) op z z' + 1 else tgt (32 * L) op z z'))), [[], [], []])) ?_ n (0, List.replicate L 0) _ _ (by simp only; omega) ⟨by simp only [zfp, ↓reduceIte, Nat.reduceEqDiff]; rfl, by simp only [zfp, ↓reduceIte, Nat.reduceEqDiff], by simp only [zfp, ↓reduceIte, Nat.reduceEqDiff], by simp only [zfp, ↓reduceIte, Nat.reduceEqDiff], by simp only [zfp, ↓reduceIte, Nat.reduceEqDiff], by simp only [zfp, ↓reduceIte, Nat.reduceEqDiff], by simp only [zfp, ↓reduceIte, Nat.reduceEqDiff], by simp only [zfp, ↓reduceIte, Nat.reduceEqDiff], by simp only [zfp, ↓reduceIte, Nat.reduceEqDiff], by simp only [zfp, ↓reduceIte, Nat.reduceEqDiff]; rfl, by simp only [zfp, ↓reduceIte, Nat.reduceEqDiff], by simp only [zfp, ↓reduceIte, Nat.reduceEqDiff], by simp only [zfp, ↓reduceIte, Nat.reduceEqDiff], by simp only [zfp, ↓reduceIte, Nat.reduceEqDiff], Nat.zero_le _, by simp, ?_, by rw [val_rep, Nat.pow_zero, Nat.mod_one]⟩
  rotate_left
  · intro x hx; rw [List.eq_of_mem_replicate hx]; decide
  intro k ⟨i, o⟩ hxk ih env s ⟨e0, e4, e5, e6, e8, e9, e10, e11, e12, e13, j4, j5, j6, j33, hi, hol, hoL, hv⟩
  simp only at e13 j33 hi hol hoL hv hxk
  by_cases hp : i = 32 * L
  · subst hp
    have q1 : ¬ (((32 * L : Nat) : Int) < ((32 * L : Nat) : Int)) := by omega
    rw [Nat.mod_eq_of_lt hT] at hv
    clear ih t1 t2 f1 hbit
    cases hj : joinZ op z z' with
    | false =>
      rw [hj] at e10
      have c1 := fun D => rmade_own n (d + 2) hn D s false 33 1 o L j33 hol (by omega) hoL
      rw [hv] at c1
      simp only [simB, zbo, Nat.reduceBEq, own0, ↓reduceIte, Nat.reduceEqDiff, Nat.reduceAdd, env0, List.getElem?_cons_zero, List.getElem?_cons_succ, zdv, zdw, zdx, zdy, zdz, zea, zeb, zec, ia22, ld31, zed, zee, zef, zeg, zeh, zei, zej, zek, zel, zem, zen, zeo, zep, zeq, zer, fa_0, fa_1, zes, bd_0, bd_2, zet, fd_1, zeu, Nat.zero_add, e0, e4, e5, e6, e8, e9, e10, e11, e12, e13, j4, j5, j6, q1, c1, madeF_eq, ext_0, ext_1, zeq]
      exact finish_ct _ _ 6 6 1 _ _ _ _ _ _ _ (by simp only [zfp, ↓reduceIte, Nat.reduceEqDiff, e6]) (by simp only [zfp, ↓reduceIte, Nat.reduceEqDiff]) (by simp only [zfp, ↓reduceIte, Nat.reduceEqDiff]) rfl
    | true =>
      rw [hj] at e10
      have c1 := fun D => radd_own1 n (d + 2) hn D s 33 1 o L j33 hol (by omega) hoL
      rw [hv] at c1
      have c2 := fun D s => cRmade n (d + 2) hn D s (num_F (tgt (32 * L) op z z' + 1) (L + 1) (by omega) (by
        have h1 := hT
        have h2 : 2 ^ (32 * L) < B ^ (L + 1) := lt_B _ _ (by omega)
        omega)) true
      simp only [simB, zbo, Nat.reduceBEq, own0, ↓reduceIte, Nat.reduceEqDiff, Nat.reduceAdd, env0, List.getElem?_cons_zero, List.getElem?_cons_succ, zdv, zdw, zdx, zdy, zdz, zea, zeb, zec, ia22, ld31, zed, zee, zef, zeg, zeh, zei, zej, zek, zel, zem, zen, zeo, zep, zeq, zer, fa_0, fa_1, zes, bd_0, bd_2, zet, fd_1, zeu, Nat.zero_add, e0, e4, e5, e6, e8, e9, e10, e11, e12, e13, j4, j5, j6, q1, opA_one, one22_int, c1, c2, madeF_eq, ext_0, ext_1, zeq]
      exact finish_ct _ _ 6 6 1 _ _ _ _ _ _ _ (by simp only [zfp, ↓reduceIte, Nat.reduceEqDiff, e6]) (by simp only [zfp, ↓reduceIte, Nat.reduceEqDiff]) (by simp only [zfp, ↓reduceIte, Nat.reduceEqDiff]) rfl
  · have hi' : i < 32 * L := by omega
    have q1 : (i : Int) < ((32 * L : Nat) : Int) := by omega
    have t1 := t1 i (by omega)
    have t2 := t2 i (by omega)
    have en := bool_neq 4 tk4
    have hb := hbit i hi'
    have nx := fun o' env s h1 h => ih (i + 1, o') env s h1 rfl h
    have hn2 := next_bit (tgt (32 * L) op z z') i
    rw [hb, ← hv] at hn2
    have g0 := i_add Tryz.prog 3 (i : Int) 1 (by omega) (by omega)
    clear ih hbit hb f0 jn
    change callQ _ _ _ = some (.bool (bitZ z i)) at t1
    change callQ _ _ _ = some (.bool (bitZ z' i)) at t2
    have f1 := f1 (bitZ z i) (bitZ z' i)
    by_cases hq : (f3 op (bitZ z i) (bitZ z' i) == joinZ op z z') = true
    · rw [hq] at hn2
      simp only [Bool.not_true, Bool.false_eq_true, if_false, Nat.add_zero] at hn2
      simp only [simB, zbo, Nat.reduceBEq, own0, ↓reduceIte, Nat.reduceEqDiff, Nat.reduceAdd, env0, List.getElem?_cons_zero, List.getElem?_cons_succ, zdv, zdw, zdx, zdy, zdz, zea, zeb, zec, ia22, ld31, zed, zee, zef, zeg, zeh, zei, zej, zek, zel, zem, zen, zeo, zep, zeq, zer, fa_0, fa_1, zes, bd_0, bd_2, zet, fd_1, zeu, Nat.zero_add, e0, e4, e5, e6, e8, e9, e10, e11, e12, e13, j4, j5, j6, q1, t1, t2, f1, en, hq, Bool.not_true, g0]
      refine nx o _ _ (by simp only; omega) ⟨?_, ?_, ?_, ?_, ?_, ?_, ?_, ?_, ?_, ?_, j4, j5, j6, j33, ?_, hol, hoL, hn2.symm⟩
      · simp only [zfp, ↓reduceIte, Nat.reduceEqDiff, e0]
      · simp only [zfp, ↓reduceIte, Nat.reduceEqDiff, e4]
      · simp only [zfp, ↓reduceIte, Nat.reduceEqDiff, e5]
      · simp only [zfp, ↓reduceIte, Nat.reduceEqDiff, e6]
      · simp only [zfp, ↓reduceIte, Nat.reduceEqDiff, e8]
      · simp only [zfp, ↓reduceIte, Nat.reduceEqDiff, e9]
      · simp only [zfp, ↓reduceIte, Nat.reduceEqDiff, e10]
      · simp only [zfp, ↓reduceIte, Nat.reduceEqDiff, e11]
      · simp only [zfp, ↓reduceIte, Nat.reduceEqDiff, e12]
      · simp only [zfp, ↓reduceIte, Nat.reduceEqDiff]; rfl
      · simp only; omega
    · rw [Bool.not_eq_true] at hq
      rw [hq] at hn2
      simp only [Bool.not_false, if_true] at hn2
      have p3 : ((i / 32 : Nat) : Int) < L := by omega
      have p4 : i / 32 < L := by omega
      have p7 : (0 : Int) ≤ ((i / 32 : Nat) : Int) := by omega
      have g1 := i_quo Tryz.prog 3 i 32 (by decide) (by omega)
      have g2 := i_rem Tryz.prog 3 i 32 (by decide)
      rw [show ((32 : Nat) : Int) = 32 from rfl] at g1 g2
      have e14 : ∀ s, convA Tryz.prog 3 97 s (.int .i64 ((i % 32 : Nat) : Int)) = some (.int .u64 ((i % 32 : Nat) : Int)) := fun s => conv3_42 s _ (by omega)
      have u1 := ia_own s 33 1 _ L .i64 ((i / 32 : Nat) : Int) j33 p7 p3
      rw [Int.toNat_natCast] at u1
      have u2 := ld_own s 33 1 o (i / 32) j33 (by omega)
      have u3 := s_shl1 Tryz.prog 57 .u64 (i % 32) (Nat.mod_lt _ (by decide))
      have hlow : val o < 2 ^ i := by rw [hv]; exact Nat.mod_lt _ (Nat.two_pow_pos i)
      have hob := or_low o hoL i hlow
      have u4 := s_or Tryz.prog 57 (o.getD (i / 32) 0) (2 ^ (i % 32)) (getD_lt o hoL _) (show 2 ^ (i % 32) < 2 ^ 32 from Nat.pow_lt_pow_right (by decide) (Nat.mod_lt _ (by decide)))
      have u5 := st31 s 33 1 _ (i / 32) (o.getD (i / 32) 0 ||| 2 ^ (i % 32)) j33 (by omega)
      have hset := set_low o hoL i (by omega) hlow
      simp only [simB, zbo, Nat.reduceBEq, own0, ↓reduceIte, Nat.reduceEqDiff, Nat.reduceAdd, env0, List.getElem?_cons_zero, List.getElem?_cons_succ, zdv, zdw, zdx, zdy, zdz, zea, zeb, zec, ia22, ld31, zed, zee, zef, zeg, zeh, zei, zej, zek, zel, zem, zen, zeo, zep, zeq, zer, fa_0, fa_1, zes, bd_0, bd_2, zet, fd_1, zeu, Nat.zero_add, e0, e4, e5, e6, e8, e9, e10, e11, e12, e13, j4, j5, j6, q1, t1, t2, f1, en, hq, Bool.not_false, g0, g1, g2, e14, u1, u2, u3, u4, u5]
      refine nx (o.set (i / 32) (o.getD (i / 32) 0 ||| 2 ^ (i % 32))) _ _ (by simp only; omega) ⟨?_, ?_, ?_, ?_, ?_, ?_, ?_, ?_, ?_, ?_, ?_, ?_, ?_, ?_, ?_, ?_, limbs_set _ hoL _ _ hob.2, ?_⟩
      · simp only [zfp, ↓reduceIte, Nat.reduceEqDiff, e0]
      · simp only [zfp, ↓reduceIte, Nat.reduceEqDiff, e4]
      · simp only [zfp, ↓reduceIte, Nat.reduceEqDiff, e5]
      · simp only [zfp, ↓reduceIte, Nat.reduceEqDiff, e6]
      · simp only [zfp, ↓reduceIte, Nat.reduceEqDiff, e8]
      · simp only [zfp, ↓reduceIte, Nat.reduceEqDiff, e9]
      · simp only [zfp, ↓reduceIte, Nat.reduceEqDiff, e10]
      · simp only [zfp, ↓reduceIte, Nat.reduceEqDiff, e11]
      · simp only [zfp, ↓reduceIte, Nat.reduceEqDiff, e12]
      · simp only [zfp, ↓reduceIte, Nat.reduceEqDiff]; rfl
      · simp only [zfp, ↓reduceIte, Nat.reduceEqDiff, j4]
      · simp only [zfp, ↓reduceIte, Nat.reduceEqDiff, j5]
      · simp only [zfp, ↓reduceIte, Nat.reduceEqDiff, j6]
      · rw [upd_self]
      · simp only; omega
      · simp only [List.length_set]; exact hol
      · simp only; omega
end Go.Ab
