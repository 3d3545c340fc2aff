/- Several texts put together: AbeT23, AbeT24, AbeB1, AbeB2, AbeB3, AbeA21, AbeR10, AbeA22, AbMn3, AbMn4, AbMn5, AbMn6, AbMn7, AbeA23, AbeA24, AbeA25, AbeA12, AbeA13, AbeA14, AbeA15, AbeA10, AbeA26, AbeA11, AbeA27, AbeA8, AbeA9o, AbeA28, AbMn8, AbeX1, AbeX2, AbeA19, AbeX3, AbeX4, AbeB4, AbeY1, AbeY2, AbeY3, AbeY4, AbeOpB, AbeY5, AbeY6, AbeY7, AbeY8, AbeY9, AbeY10, AbeY11. Conditions: as each part says. -/
import Derived.Test.YticeekdofpdcoaaAbEAllZ05
import Derived.Test.YticeekdofpdcoaaAbEAllZ04
import Derived.Laws.Sem
import Derived.SizedLaws
import Derived.ChangeSlices
/- Light terms; the items of a list. Conditions: lengths in range. -/
namespace Go.Ab
open Go.Proofs
set_option maxRecDepth 100000
set_option linter.unusedSimpArgs false

mutual
def lgT : T → Int → Int
  | .mk _ _ _ l s _ _ ks, n => if (l.length : Int) > 40 ∨ (s.length : Int) > 500 then -1 else lgK ks (n - 1)
def lgK : List T → Int → Int
  | [], n => n
  | t :: r, n => if n ≥ 0 then lgK r (lgT t n) else n
end
mutual
theorem lgT_lt : ∀ (t : T) (n : Int), 0 ≤ n → -1 ≤ lgT t n ∧ lgT t n ≤ n - 1
  | .mk _ _ _ l s _ _ ks, n, h => by
    simp only [lgT]
    split
    · omega
    · by_cases h1 : 0 ≤ n - 1
      · have := lgK_le ks (n - 1) (by omega); omega
      · have h2 : n - 1 = -1 := by omega
        rw [h2]
        cases ks with
        | nil => simp only [lgK]; omega
        | cons a r => simp only [lgK]; rw [if_neg (by omega)]; omega
theorem lgK_le : ∀ (ks : List T) (n : Int), -1 ≤ n → -1 ≤ lgK ks n ∧ lgK ks n ≤ n
  | [], n, h => by simp only [lgK]; omega
  | t :: r, n, h => by
    simp only [lgK]
    split
    · rename_i h0
      have h1 := lgT_lt t n h0
      have h2 := lgK_le r (lgT t n) h1.1
      omega
    · omega
end
mutual
def leanT : T → Prop
  | .mk _ _ _ l s _ _ ks => l.length ≤ 40 ∧ s.length ≤ 500 ∧ leanK ks
def leanK : List T → Prop
  | [] => True
  | t :: r => leanT t ∧ leanK r
end
mutual
theorem lgT_ok : ∀ (t : T) (n : Int), 0 ≤ lgT t n → leanT t ∧ lgT t n = n - nodT t
  | .mk _ _ _ l s _ _ ks, n, h => by
    simp only [lgT] at h ⊢
    split at h
    · omega
    · rename_i hc
      rw [if_neg hc]
      obtain ⟨h1, h2⟩ := lgK_ok ks (n - 1) h
      simp only [leanT, nodT]
      exact ⟨⟨by omega, by omega, h1⟩, by omega⟩
theorem lgK_ok : ∀ (ks : List T) (n : Int), 0 ≤ lgK ks n → leanK ks ∧ lgK ks n = n - nodK ks
  | [], n, h => by simp only [lgK, leanK, nodK]; exact ⟨trivial, by omega⟩
  | t :: r, n, h => by
    simp only [lgK] at h ⊢
    split at h
    · rename_i h0
      rw [if_pos h0]
      obtain ⟨h1, h2⟩ := lgK_ok r (lgT t n) h
      have h3 := nodK_nn r
      obtain ⟨h4, h5⟩ := lgT_ok t n (by omega)
      simp only [leanK, nodK]
      exact ⟨⟨h4, h1⟩, by omega⟩
    · omega
theorem nodK_nn (r : List T) : (0 : Int) ≤ nodK r := by omega
end
set_option maxHeartbeats 8000000 in
theorem light_eq (R : Nat) (hR : 2000 ≤ R) (hR2 : R ≤ 9223372036854775808) : ∀ (d : Nat) (t : T) (n : Int), 0 ≤ n → n < 1000 → n + 2 ≤ (d : Int) → bigT R t → fewT R t →
    evalFn Try.prog cfg0 R d 26 [.tree (encT t), .tree (.int .i64 n)] = some (.tree (.int .i64 (lgT t n)), [[], []])
  | 0, t, n, h0, _, hd, _, _ => by omega
  | d + 1, t, n, h0, h1, hd, hb, hf => by
    have IH := light_eq R hR hR2 d
    obtain ⟨k, b, lg, l, s, m, kg, ks⟩ := t
    simp only [bigT] at hb
    simp only [fewT] at hf
    rw [evalFn_go _ Try.func26 (by unfold Try.f26; rfl) (by unfold Try.f26; decide) (Nat.le_of_ble_eq_true (by unfold Try.f26; rfl)) (by kernel_rfl)]
    have f0 := i_sub Try.prog 3 n 1 (by omega) (by omega)
    have ll := len23
    by_cases c1 : (l.length : Int) > 40
    · have hr : lgT (.mk k b lg l s m kg ks) n = -1 := by simp only [lgT]; rw [if_pos (.inl c1)]
      rw [hr]
      simp only [simB, zbo, Nat.reduceBEq, own0, ↓reduceIte, Nat.reduceEqDiff, Nat.reduceAdd, simA, simL, simN, Nat.zero_add, zex, List.toList_toArray, len9, ix9, zey, zez, zfa, zfb, zfc, encT, cellsT, f0, faT_1, faT_2, faT_4, faN_1, ldT_2, ldT_4, ldT_l, ll, c1, Nat.reduceAdd]
      exact finish_i _ _ _ _ _ _ _ (by simp only [zfk, ↓reduceIte, Nat.reduceEqDiff]; try rfl) rfl
    by_cases c2 : (s.length : Int) > 500
    · have hr : lgT (.mk k b lg l s m kg ks) n = -1 := by simp only [lgT]; rw [if_pos (.inr c2)]
      rw [hr]
      simp only [simB, zbo, Nat.reduceBEq, own0, ↓reduceIte, Nat.reduceEqDiff, Nat.reduceAdd, simA, simL, simN, Nat.zero_add, zex, List.toList_toArray, len9, ix9, zey, zez, zfa, zfb, zfc, encT, cellsT, f0, faT_1, faT_2, faT_4, faN_1, ldT_2, ldT_4, ldT_l, ll, c1, c2, Nat.reduceAdd]
      exact finish_i _ _ _ _ _ _ _ (by simp only [zfk, ↓reduceIte, Nat.reduceEqDiff]; try rfl) rfl
    have hr : lgT (.mk k b lg l s m kg ks) n = lgK ks (n - 1) := by simp only [lgT]; rw [if_neg (by omega)]
    rw [hr]
    simp only [simB, zbo, Nat.reduceBEq, own0, ↓reduceIte, Nat.reduceEqDiff, Nat.reduceAdd, simA, simL, simN, Nat.zero_add, zex, List.toList_toArray, len9, ix9, zey, zez, zfa, zfb, zfc, encT, cellsT, f0, faT_1, faT_2, faT_4, faN_1, ldT_2, ldT_4, ldT_l, ll, c1, c2, Nat.reduceAdd, den_loop]
    refine loop_ends (X := Nat × Int) (fun x env s' => env 2 = .ptr 2 1 0 ∧ s' 2 = ⟨1, .buf (cellsT (.mk k b lg l s m kg ks))⟩ ∧ env 1 = .int .i64 x.2 ∧ env 5 = .int .i64 (x.1 : Int) ∧ x.1 ≤ ks.length ∧ -1 ≤ x.2 ∧ x.2 ≤ n - 1 ∧ lgK ks (n - 1) = lgK (ks.drop x.1) x.2) (fun x => (x.2 + 1).toNat) (fun _ => (.tree (.int .i64 (lgK ks (n - 1))), [[], []])) ?_ R (0, n - 1) _ _ (by simp only; omega) ⟨(by simp only [zfk, ↓reduceIte, Nat.reduceEqDiff]; try rfl), (by simp only [zfk, ↓reduceIte, Nat.reduceEqDiff]; try rfl), (by simp only [zfk, ↓reduceIte, Nat.reduceEqDiff]; try rfl), (by simp only [zfk, ↓reduceIte, Nat.reduceEqDiff]; try rfl), Nat.zero_le _, by simp only; omega, by simp only; omega, rfl⟩
    rintro rr ⟨i, v⟩ hrr ih2 env st ⟨e2, j2, e1, e5, hi, hv0, hv1, hk⟩
    simp only at e1 e5 hi hv0 hv1 hk hrr
    simp only [cellsT] at j2
    cases hdr : ks.drop i with
    | nil =>
      have hil : i = ks.length := by have := congrArg List.length hdr; simp only [List.length_drop, List.length_nil] at this; omega
      subst hil
      rw [hdr] at hk
      simp only [lgK] at hk
      rw [hk]
      have q1 : ¬ ((ks.length : Int) < (ks.length : Int)) := by omega
      simp only [simB, zbo, Nat.reduceBEq, own0, ↓reduceIte, Nat.reduceEqDiff, Nat.reduceAdd, simL, simN, Nat.zero_add, e2, j2, e1, e5, faT_4, ldT_4, lenTk, q1]
      exact finish_i _ _ _ _ _ _ _ (by simp only [zfk, ↓reduceIte, Nat.reduceEqDiff]; try rfl) rfl
    | cons kid r =>
      have hil : i < ks.length := by have := congrArg List.length hdr; simp only [List.length_drop, List.length_cons] at this; omega
      have q1 : (i : Int) < (ks.length : Int) := by omega
      rw [hdr] at hk
      simp only [lgK] at hk
      by_cases q2 : v ≥ 0
      · rw [if_pos q2] at hk
        have hbk := bigK_at R ks i kid r hdr hb.2.2
        have hfk := fewK_at R ks i kid r hdr hf.2.2
        have cc := fun D st => callA_trees (cfg := cfg0) (d := D) (s := st) (f := 26) (vs := [encT kid, .int .i64 v]) rfl (IH kid v q2 (by omega) (by omega) hbk hfk)
        simp only [encT] at cc
        have ia := fun st => ia_K st ks (gr kg) i hil
        rw [hdr] at ia
        have ld := fun st => ld_K st kid r
        simp only [encT] at ld
        have f5 := i_add Try.prog 3 (i : Int) 1 (by omega) (by omega)
        have hl := lgT_lt kid v q2
        simp only [simB, zbo, Nat.reduceBEq, own0, ↓reduceIte, Nat.reduceEqDiff, Nat.reduceAdd, simL, simN, Nat.zero_add, e2, j2, e1, e5, faT_4, ldT_4, lenTk, q1, q2, ia, ld, cc, f5]
        exact ih2 (i + 1, lgT kid v) _ _ (by simp only; omega) rfl ⟨(by simp only [zfk, ↓reduceIte, Nat.reduceEqDiff, e2]; try rfl), by simp only [cellsT]; exact (by simp only [zfk, ↓reduceIte, Nat.reduceEqDiff, j2]; try rfl), (by simp only [zfk, ↓reduceIte, Nat.reduceEqDiff]; try rfl), (by simp only [zfk, ↓reduceIte, Nat.reduceEqDiff]; try rfl), by simp only; omega, by simp only; omega, by simp only; omega, by simp only; rw [drop_next hdr]; exact hk⟩
      · rw [if_neg q2] at hk
        rw [hk]
        simp only [simB, zbo, Nat.reduceBEq, own0, ↓reduceIte, Nat.reduceEqDiff, Nat.reduceAdd, simL, simN, Nat.zero_add, e2, j2, e1, e5, faT_4, ldT_4, lenTk, q1, q2]
        exact finish_i _ _ _ _ _ _ _ (by simp only [zfk, ↓reduceIte, Nat.reduceEqDiff]; try rfl) rfl
theorem Light_eq (R : Nat) (hR : 2000 ≤ R) (hR2 : R ≤ 9223372036854775808) (d : Nat) (t : T) (n : Int) (h0 : 0 ≤ n) (h1 : n < 1000) (hd : n + 2 ≤ (d : Int)) (hb : bigT R t) (hf : fewT R t) :
    evalFn Try.prog cfg0 R (d+1) 8 [.tree (encT t), .tree (.int .i64 n)] = some (.tree (.bool (decide (lgT t n ≥ 0))), [[], []]) := by
  rw [evalFn_go _ Try.func8 (by unfold Try.f8; rfl) (by unfold Try.f8; decide) (Nat.le_of_ble_eq_true (by unfold Try.f8; rfl)) (by kernel_rfl)]
  have cc := fun D st => callA_trees (cfg := cfg0) (d := D) (s := st) (f := 26) (vs := [encT t, .int .i64 n]) rfl (light_eq R hR hR2 d t n h0 h1 hd hb hf)
  simp only [encT] at cc
  simp only [simB, zbo, Nat.reduceBEq, own0, ↓reduceIte, Nat.reduceEqDiff, Nat.reduceAdd, simA, simL, simN, Nat.zero_add, encT, ldT_u, cc]
  exact finish_b _ _ _ _ _ _ _ (by simp only [zfk, ↓reduceIte, Nat.reduceEqDiff]; try rfl) rfl

end Go.Ab

/- How many words a term takes. Conditions: terms that are lean. -/
namespace Go.Ab
open Go.Proofs
set_option maxRecDepth 100000
set_option linter.unusedSimpArgs false

end Go.Ab

/- relictref03.Same, walked. Conditions: so many limbs, nodes at most. -/
namespace Go.Ab
open Go.Proofs
set_option maxRecDepth 100000
set_option linter.unusedSimpArgs false

end Go.Ab

/- relictref03.Same of any terms. Conditions: so many limbs, nodes at most. -/
namespace Go.Ab
open Go.Proofs
set_option maxRecDepth 100000
set_option linter.unusedSimpArgs false
end Go.Ab

/- bif.number, bif.empty, bif.text; relictref03.List, relictlaw00.Proper. Conditions: lengths in range. -/
namespace Go.Ab
open Go.Proofs
set_option maxRecDepth 100000
set_option linter.unusedSimpArgs false

def numG (v : Int) : Gk := if v.natAbs = 0 then .n else .l
def smallT (v : Int) : T := .mk 1 (decide (v < 0)) (numG v) (digs v.natAbs) [] 0 .n []
theorem encZ_G (v : Int) : encZ v = .agg [.bool (decide (v < 0)), encL (numG v) (digs v.natAbs)] := rfl
theorem Ap.lent {s : St} {d : Nat} {x : AV} {us : List T} (h : Ap s d x us) : isLent x = true ∧ loosen x = .sl (cellsK us) us.length (gr (kgOf us)) := by
  rcases h with ⟨rfl, rfl⟩ | ⟨hu, t, rfl, _⟩
  · exact ⟨rfl, rfl⟩
  · exact ⟨rfl, by simp only [loosen, kgOf, if_neg hu, gr]⟩
def one26 (x : AV) : Option AV := (fillA (fun i => some (i * 6, 6)) (rep 1 zeroT6) [(0, x)]).map (.sl · 1 .tight)
theorem one26_T (e : T) : one26 (.agg (cellsT e)) = some (.sl (cellsT e) 1 .tight) := bs1T e
end Go.Ab

/- The reference's Int, Neg, Bits; copies of numbers. Conditions: limbs in range. -/
namespace Go.Ab
open Go.Proofs
set_option maxRecDepth 100000
set_option linter.unusedSimpArgs false

set_option maxHeartbeats 2000000 in
theorem rbits_eq (n d : Nat) (hn : 100000 ≤ n) {w : AV} {z : Int} (hw : IsN w z) : evalFn Try.prog cfg0 n (d+3) 82 [.tree w] = some (.tree (.int .i64 (blen z.natAbs : Int)), [[]]) := by
  obtain ⟨g, c1⟩ := cRis n d hw
  have hlt := hw.lt
  obtain ⟨neg, g0, l, rfl, hl, hz⟩ := hw
  rw [evalFn_go _ Try.func82 (by unfold Try.f82; rfl) (by unfold Try.f82; decide) (Nat.le_of_ble_eq_true (by unfold Try.f82; rfl)) (by kernel_rfl)]
  have c2 := fun D s => rcLen n d hn D s (num_can g z hlt)
  simp only [simB, zbo, Nat.reduceBEq, own0, ↓reduceIte, Nat.reduceEqDiff, Nat.reduceAdd, simA, simL, simN, Nat.zero_add, st0_1, c1, c2]
  exact finish_i _ _ _ _ _ _ _ (by simp only [zfk, ↓reduceIte]) rfl
theorem bd_2T (b : Bool) (l : List Nat) (p t : Nat) : buildA Try.prog 25 [(0, .bool b), (1, .sl (encC l) l.length (.tok p t))] = some (encA b .l l) := by
  simp only [buildA, zew, tk24, pl24, Option.bind_some]
  rfl
set_option maxHeartbeats 2000000 in
theorem copyN_eq (n d : Nat) (b : Bool) (g : Gk) (l : List Nat) (hl : l.length ≤ 1000000) : evalFn Try.prog cfg0 n (d+2) 29 [.tree (encA b g l)] = some (.tree (encA b .l l), [[]]) := by
  rw [evalFn_go _ Try.func29 (by unfold Try.f29; rfl) (by unfold Try.f29; decide) (Nat.le_of_ble_eq_true (by unfold Try.f29; rfl)) (by kernel_rfl)]
  have c1 := fun D s => cLimbsT n d (sh_L g l) hl D s
  have kp : cfg0.keep 50 = true := by kernel_rfl
  have it : [encL g l].all isTree = true := by cases g <;> rfl
  simp only [simB, zbo, Nat.reduceBEq, own0, ↓reduceIte, Nat.reduceEqDiff, Nat.reduceAdd, simA, simL, simN, Nat.zero_add, st0_1, kp, it, c1, bd_2T]
  exact finish_c _ _ 2 2 1 _ _ _ _ _ (by simp only [zfk, ↓reduceIte, Nat.reduceEqDiff]) (by simp only [zfk, ↓reduceIte, Nat.reduceEqDiff]) rfl
set_option maxHeartbeats 4000000 in
theorem rint_eq (n d : Nat) (hn : 100000 ≤ n) {w : AV} {z : Int} (hw : IsN w z) : evalFn Try.prog cfg0 n (d+3) 81 [.tree w] = some (.tree (intZ z), [[]]) := by
  obtain ⟨g, c1⟩ := cRis n d hw
  have hlt := hw.lt
  obtain ⟨neg0, g0, l0, rfl, _, _⟩ := hw
  rw [evalFn_go _ Try.func81 (by unfold Try.f81; rfl) (by unfold Try.f81; decide) (Nat.le_of_ble_eq_true (by unfold Try.f81; rfl)) (by kernel_rfl)]
  have hl := limbs_digs z.natAbs
  have hv := val_digs z.natAbs
  have hdl : ∀ k, (digs z.natAbs).length ≤ k ↔ z.natAbs < B ^ k := digs_len_le z.natAbs
  obtain ⟨l, hle⟩ : ∃ l, digs z.natAbs = l := ⟨_, rfl⟩
  rw [hle] at hl hv hdl
  by_cases h2 : (l.length : Int) > 2
  · have hb : ¬ z.natAbs < B ^ 2 := fun h => by have := (hdl 2).mpr h; omega
    have e : B ^ 2 = 18446744073709551616 := by decide
    rw [e] at hb
    have hi : isI64 z = false := by
      unfold isI64
      by_cases hz : z < 0
      · rw [decide_eq_false (show ¬ -9223372036854775808 ≤ z by omega)]; rfl
      · rw [decide_eq_false (show ¬ z < 9223372036854775808 by omega), Bool.and_false]
    rw [intZ, if_neg (by rw [hi]; decide)]
    simp only [simB, zbo, Nat.reduceBEq, own0, ↓reduceIte, Nat.reduceEqDiff, Nat.reduceAdd, simA, simL, simN, Nat.zero_add, st0_1, c1, hle, h2]
    exact finish_ib _ _ _ _ _ _ _ _ _ (by simp only [zfk, ↓reduceIte, Nat.reduceEqDiff]) (by simp only [zfk, ↓reduceIte, Nat.reduceEqDiff]) rfl
  have hx64 : z.natAbs < 18446744073709551616 := by rw [← hv]; exact len2_val l hl (by omega)
  have b0 := i_sub Try.prog 3 (l.length : Int) 1 (by omega) (by omega)
  simp only [simB, zbo, Nat.reduceBEq, own0, ↓reduceIte, Nat.reduceEqDiff, Nat.reduceAdd, simA, simL, simN, Nat.zero_add, st0_1, c1, hle, h2, b0, den_loop]
  refine loop_ends (X := Nat) (fun j env s => env 4 = .ptr 4 1 0 ∧ s 4 = ⟨1, .buf [.bool (decide (z < 0)), encL g l]⟩ ∧ env 6 = .int .i64 ((j : Int) - 1) ∧ env 5 = .int .u64 (val (l.drop j) : Int) ∧ j ≤ l.length ∧ outsA s 0 [.tree (encA neg0 g0 l0)] = some [[]]) (fun j => j) (fun _ => (.tree (intZ z), [[]])) ?_ n l.length _ _ (by omega) ⟨by simp only [zfk, ↓reduceIte, Nat.reduceEqDiff], by simp only [zfk, ↓reduceIte, Nat.reduceEqDiff], by simp only [zfk, ↓reduceIte, Nat.reduceEqDiff], by rw [List.drop_length]; simp only [zfk, ↓reduceIte, Nat.reduceEqDiff]; rfl, Nat.le_refl _, rfl⟩
  intro k j hx ih env s ⟨e4, hs, e6, e5, hj, ho⟩
  by_cases hp : j = 0
  · subst hp
    have q1 : ¬ ((0 : Nat) : Int) - 1 ≥ 0 := by omega
    rw [List.drop_zero, hv] at e5
    by_cases hz : z < 0
    · by_cases hr : z.natAbs ≤ 9223372036854775808
      · have hr' : (z.natAbs : Int) ≤ 9223372036854775808 := by omega
        have u := un_neg64 z.natAbs (by omega)
        rw [Nat.mod_eq_of_lt (by omega)] at u
        have c2 := fun s => conv55_3 s (18446744073709551616 - z.natAbs) (by omega)
        simp only [if_neg (show ¬ 18446744073709551616 - z.natAbs < 9223372036854775808 by omega), show ((18446744073709551616 - z.natAbs : Nat) : Int) - 18446744073709551616 = z by omega] at c2
        have hi : isI64 z = true := by
          unfold isI64
          rw [decide_eq_true (show -9223372036854775808 ≤ z by omega), decide_eq_true (show z < 9223372036854775808 by omega)]; rfl
        rw [intZ, if_pos hi]
        simp only [simB, zbo, Nat.reduceBEq, own0, ↓reduceIte, Nat.reduceEqDiff, Nat.reduceAdd, simL, simN, Nat.zero_add, e4, hs, e6, e5, q1, hz, hr', u, c2]
        exact finish_ib _ _ _ _ _ _ _ _ _ (by simp only [zfk, ↓reduceIte, Nat.reduceEqDiff]) (by simp only [zfk, ↓reduceIte, Nat.reduceEqDiff]) ho
      · have hr' : ¬ (z.natAbs : Int) ≤ 9223372036854775808 := by omega
        have hi : isI64 z = false := by
          unfold isI64
          rw [decide_eq_false (show ¬ -9223372036854775808 ≤ z by omega)]; rfl
        rw [intZ, if_neg (by rw [hi]; decide)]
        simp only [simB, zbo, Nat.reduceBEq, own0, ↓reduceIte, Nat.reduceEqDiff, Nat.reduceAdd, simL, simN, Nat.zero_add, e4, hs, e6, e5, q1, hz, hr', unA_not', Bool.not_true, Bool.not_false]
        exact finish_ib _ _ _ _ _ _ _ _ _ (by simp only [zfk, ↓reduceIte, Nat.reduceEqDiff]) (by simp only [zfk, ↓reduceIte, Nat.reduceEqDiff]) ho
    · by_cases hr : z.natAbs < 9223372036854775808
      · have hr' : (z.natAbs : Int) < 9223372036854775808 := by omega
        have c2 := fun s => conv55_3 s z.natAbs (by omega)
        simp only [if_pos hr, show ((z.natAbs : Nat) : Int) = z by omega] at c2
        have hi : isI64 z = true := by
          unfold isI64
          rw [decide_eq_true (show -9223372036854775808 ≤ z by omega), decide_eq_true (show z < 9223372036854775808 by omega)]; rfl
        rw [intZ, if_pos hi]
        rw [show ((z.natAbs : Nat) : Int) = z by omega] at e5 hr'
        simp only [simB, zbo, Nat.reduceBEq, own0, ↓reduceIte, Nat.reduceEqDiff, Nat.reduceAdd, simL, simN, Nat.zero_add, e4, hs, e6, e5, q1, hz, hr', c2, unA_not', Bool.not_true, Bool.not_false]
        exact finish_ib _ _ _ _ _ _ _ _ _ (by simp only [zfk, ↓reduceIte, Nat.reduceEqDiff]) (by simp only [zfk, ↓reduceIte, Nat.reduceEqDiff]) ho
      · have hr' : ¬ (z.natAbs : Int) < 9223372036854775808 := by omega
        have hi : isI64 z = false := by
          unfold isI64
          rw [decide_eq_false (show ¬ z < 9223372036854775808 by omega), Bool.and_false]
        rw [intZ, if_neg (by rw [hi]; decide)]
        simp only [simB, zbo, Nat.reduceBEq, own0, ↓reduceIte, Nat.reduceEqDiff, Nat.reduceAdd, simL, simN, Nat.zero_add, e4, hs, e6, e5, q1, hz, hr', unA_not', Bool.not_true, Bool.not_false]
        exact finish_ib _ _ _ _ _ _ _ _ _ (by simp only [zfk, ↓reduceIte, Nat.reduceEqDiff]) (by simp only [zfk, ↓reduceIte, Nat.reduceEqDiff]) ho
  · obtain ⟨i, rfl⟩ : ∃ i, j = i + 1 := ⟨j - 1, by omega⟩
    have ei : ((i + 1 : Nat) : Int) - 1 = (i : Int) := by omega
    rw [ei] at e6
    have q1 : (i : Int) ≥ 0 := by omega
    have q2 : (0 : Int) ≤ (i : Int) := by omega
    have q3 : i < l.length := by omega
    have q4 : (i : Int) < (l.length : Int) := by omega
    have hxi := getD_lt l hl i
    have hd : l.drop i = l.getD i 0 :: l.drop (i + 1) := by
      rw [List.drop_eq_getElem_cons q3, List.getD_eq_getElem?_getD, List.getElem?_eq_getElem q3]; rfl
    have hvd : val (l.drop i) = l.getD i 0 + B * val (l.drop (i + 1)) := by rw [hd]; rfl
    have hB : B = 4294967296 := rfl
    have h64 : val (l.drop i) < 18446744073709551616 := len2_val _ (fun x hx => hl x (List.mem_of_mem_drop hx)) (by rw [List.length_drop]; omega)
    have m2 := u_shl Try.prog 72 (val (l.drop (i + 1))) .u64 32 (by decide) (by decide)
    rw [show (2 : Nat) ^ (32 : Int).toNat = 4294967296 from rfl, Nat.mod_eq_of_lt (by rw [hvd, hB] at h64; omega)] at m2
    have m3 := u_add Try.prog 72 (val (l.drop (i + 1)) * 4294967296) (l.getD i 0)
    rw [show val (l.drop (i + 1)) * 4294967296 + l.getD i 0 = val (l.drop i) by rw [hvd, hB]; omega, Nat.mod_eq_of_lt h64] at m3
    have f4 := i_sub Try.prog 3 (i : Int) 1 (by omega) (by omega)
    simp only [simB, zbo, Nat.reduceBEq, own0, ↓reduceIte, Nat.reduceEqDiff, Nat.reduceAdd, simL, simN, Nat.zero_add, e4, hs, e6, e5, q1, q2, q3, q4, Int.toNat_natCast, hxi, m2, m3, f4]
    refine ih i _ _ (by omega) rfl ⟨?_, hs, ?_, ?_, by omega, ho⟩
    · simp only [zfk, ↓reduceIte, Nat.reduceEqDiff, e4]
    · simp only [zfk, ↓reduceIte, Nat.reduceEqDiff]
    · simp only [zfk, ↓reduceIte, Nat.reduceEqDiff]
end Go.Ab

/- The reference's Div. Conditions: limbs in range, not too many. -/
namespace Go.Ab
open Go.Proofs
set_option maxRecDepth 100000
set_option linter.unusedSimpArgs false

end Go.Ab

/- The reference's sums, products, quotients of numbers. Conditions: limbs in range. -/
namespace Go.Ab
open Go.Proofs
set_option maxRecDepth 100000
set_option linter.unusedSimpArgs false

section
variable (n d : Nat) (hn : 100000 ≤ n)
include hn
end
section
variable (n d : Nat) (hn : 100000 ≤ n) {w w' : AV} {z z' : Int} (hw : IsN w z) (hw' : IsN w' z')
include hn hw hw'
set_option maxHeartbeats 8000000
end
end Go.Ab

/- Bits of numbers with signs, as so many limbs: plain arithmetic. -/
namespace Go.Ab
end Go.Ab

/- Bits with all ones, with nought, with themselves: plain arithmetic. -/
namespace Go.Ab
section
variable (n x : Nat) (h : x < 2 ^ n)
include h
end
section
variable (z : Int) (h : z.natAbs < B ^ 12)
include h
end
end Go.Ab

/- And, or, exclusive or together, of numbers with room: plain arithmetic. -/
namespace Go.Ab
end Go.Ab

/- Bits of numbers below 0, in so many bits as have room. Pure mathematics. -/
namespace Go.Ab
end Go.Ab

/- The reference's bits of numbers. Pure mathematics. -/
namespace Go.Ab
def f3 (op : Nat) (p q : Bool) : Bool := if op = 6 then p && q else if op = 7 then p || q else !(p == q)
section
variable {N op : Nat} {a b : Int} (ha : a.natAbs < 2 ^ N) (hb : b.natAbs < 2 ^ N)
include ha hb
end
end Go.Ab

/- The reference's bits: and, or, exclusive or, bit by bit. Conditions: limbs in range. -/
namespace Go.Ab
open Go.Proofs
set_option maxRecDepth 100000
set_option linter.unusedSimpArgs false

end Go.Ab

/- The reference's bits: the walk. Conditions: limbs in range. -/
namespace Go.Ab
open Go.Proofs
set_option maxRecDepth 100000
set_option linter.unusedSimpArgs false

end Go.Ab

/- The reference's shifts, and how far. Conditions: limbs in range. -/
namespace Go.Ab
open Go.Proofs
set_option maxRecDepth 100000
set_option linter.unusedSimpArgs false

-- Down.
-- Up.
end Go.Ab

/- And, or, exclusive or of limbs; a number's bits. Conditions: numbers that are shown. -/
namespace Go.Ab
open Go.Proofs
set_option maxRecDepth 100000
set_option linter.unusedSimpArgs false

end Go.Ab

/- A number's bits. Conditions: numbers that are shown. -/
namespace Go.Ab
open Go.Proofs
set_option maxRecDepth 100000
set_option linter.unusedSimpArgs false

end Go.Ab

/- Logic of numbers. Conditions: numbers that are shown. -/
namespace Go.Ab
open Go.Proofs
set_option maxRecDepth 100000
set_option linter.unusedSimpArgs false

end Go.Ab

/- Op: logic; the statements' own way to call it. Conditions: numbers that are shown. -/
namespace Go.Ab
open Go.Proofs
set_option maxRecDepth 100000
set_option linter.unusedSimpArgs false
section
variable (n d : Nat) (hn : 100000 ≤ n) {w w' : AV} {z z' : Int} (hw : IsN w z) (hw' : IsN w' z')
include hn hw hw'
set_option maxHeartbeats 8000000
end
end Go.Ab

/- Op: shifts. Conditions: numbers that are shown. -/
namespace Go.Ab
open Go.Proofs
set_option maxRecDepth 100000
set_option linter.unusedSimpArgs false
section
variable (n d : Nat) (hn : 100000 ≤ n) {w w' : AV} {z z' : Int} (hw : IsN w z) (hw' : IsN w' z')
include hn hw hw'
set_option maxHeartbeats 8000000
end
end Go.Ab

/- The reference's Op, any op; the program's, of an op that is none. Conditions: limbs in range. -/
namespace Go.Ab
open Go.Proofs
set_option maxRecDepth 100000
set_option linter.unusedSimpArgs false

section
variable (n d : Nat) (hn : 100000 ≤ n) {w w' : AV} {z z' : Int} (hw : IsN w z) (hw' : IsN w' z')
include hn hw hw'
set_option maxHeartbeats 8000000
end
end Go.Ab

/- The statement NumRooms, abstractly. Conditions: an int. -/
namespace Go.Ab
open Go.Proofs
set_option maxRecDepth 100000
set_option linter.unusedSimpArgs false

end Go.Ab

/- Op, any op: the program's and the reference's give the same number. Conditions: numbers that are shown. -/
namespace Go.Ab
open Go.Proofs
set_option maxRecDepth 100000
set_option linter.unusedSimpArgs false

section
variable (n d : Nat) (hn : 100000 ≤ n) {w w' : AV} {z z' : Int} (hw : IsN w z) (hw' : IsN w' z')
include hn hw hw'
set_option maxHeartbeats 8000000
end
end Go.Ab

/- The number statements' own example, by the kernel's own reckoning. No conditions. -/
namespace Go.Ab
open Go.Proofs
end Go.Ab

/- The statement NumOrders, abstractly. Conditions: limbs in range. -/
namespace Go.Ab
open Go.Proofs
set_option maxRecDepth 100000
set_option linter.unusedSimpArgs false

end Go.Ab

/- The statement NumAll, abstractly. Conditions: limbs in range, an int in range. -/
namespace Go.Ab
open Go.Proofs
set_option maxRecDepth 100000
set_option linter.unusedSimpArgs false

end Go.Ab

/- Numbers as texts. Pure mathematics. -/
namespace Go.Ab
end Go.Ab

/- Strings: what the library's functions upon them give. Conditions: lengths in range. -/
namespace Go.Ab
open Go.Proofs
set_option maxRecDepth 100000
set_option linter.unusedSimpArgs false

end Go.Ab

/- strings.Trim by the digits. Conditions: lengths in range. -/
namespace Go.Ab
open Go.Proofs
set_option maxRecDepth 100000
set_option linter.unusedSimpArgs false

end Go.Ab

/- The statement NumInts, abstractly. Conditions: two ints. -/
namespace Go.Ab
open Go.Proofs
set_option maxRecDepth 100000
set_option linter.unusedSimpArgs false

section
variable (a b : Int)
variable (ha : a.natAbs ≤ 2147483648) (hb : b.natAbs ≤ 2147483648)
include ha hb
end
end Go.Ab

/- A number's text. Conditions: a number that is shown. -/
namespace Go.Ab
open Go.Proofs
set_option maxRecDepth 100000
set_option linter.unusedSimpArgs false

end Go.Ab

/- A number's text: the walk. Conditions: a number that is shown. -/
namespace Go.Ab
open Go.Proofs
set_option maxRecDepth 100000
set_option linter.unusedSimpArgs false

end Go.Ab

/- relictref03.List, relictlaw00.Proper; rows of ints that grow. Conditions: lengths in range. -/
namespace Go.Ab
open Go.Proofs
set_option maxRecDepth 100000
set_option linter.unusedSimpArgs false

def duo26 (x y : AV) : Option AV := (fillA (fun i => some (i * 6, 6)) (rep 2 [.int .i64 0, .bool false, .sl [] 0 .nil, .str [], .int .i64 0, .sl [] 0 .nil]) [(0, x), (1, y)]).map (.sl · 2 .tight)
theorem duo26_agg (a b c d e f a' b' c' d' e' f' : AV) : duo26 (.agg [a, b, c, d, e, f]) (.agg [a', b', c', d', e', f']) = some (.sl [a, b, c, d, e, f, a', b', c', d', e', f'] 2 .tight) := rfl
theorem opA_duo26 (call : FuncId → List Arg → Option Out) (q : Bool) (d : Option Tmp) (ty : TypeId) (pos : String) (af : Array Edge) (g : Option (Nat × Bool)) (t : Nat) (env : Env) (s : St) (x y : Operand) :
    opA Try.prog cfg0 call q ⟨d, .buildSlice 26 2 #[(0, x), (1, y)], ty, pos, af, g⟩ t env s = (duo26 (ev env x) (ev env y)).map (·, s) := by
  rw [opA_bs]
  simp only [tkTk, eszT, zeroT, Option.bind_some, List.map_cons, List.map_nil]
  rfl
theorem duo26_T (a b : T) : duo26 (.agg (cellsT a)) (.agg (cellsT b)) = some (.sl (cellsK [a, b]) 2 .tight) := by
  obtain ⟨k, b1, lg, l, s, m, kg, ks⟩ := a
  obtain ⟨k', b2, lg', l', s', m', kg', ks'⟩ := b
  simp only [cellsT, cellsK, List.append_nil, List.cons_append, List.nil_append]
  exact duo26_agg _ _ _ _ _ _ _ _ _ _ _ _
theorem bdT_cons (a b : T) : buildA Try.prog 28 [(0, .int .i64 4), (4, .sl (cellsK [a, b]) 2 .tight)] = some (.agg (cellsT (consT a b))) := bdT_4 4 _ _ .t
set_option maxHeartbeats 4000000 in
theorem rList_eq (n d : Nat) (ks : List T) (g : Grip) (t : T) (hn : ks.length < n) (hl : ks.length ≤ 1000000) : evalFn Try.prog cfg0 n (d+1) 85 [.tree (.sl (cellsK ks) ks.length g), .tree (encT t)] = some (.tree (encT (listT ks t)), [[], []]) := by
  rw [evalFn_go _ Try.func85 (by unfold Try.f85; rfl) (by unfold Try.f85; decide) (Nat.le_of_ble_eq_true (by unfold Try.f85; rfl)) (by kernel_rfl)]
  have f0 := i_sub Try.prog 3 (ks.length : Int) 1 (by omega) (by omega)
  simp only [simB, zbo, Nat.reduceBEq, own0, ↓reduceIte, Nat.reduceEqDiff, Nat.reduceAdd, simA, simL, simN, Nat.zero_add, zeroT, encT, ldT_u, st_Tt, stT_6, lenTk, f0, den_loop]
  refine loop_ends (X := Nat) (fun j env s => env 0 = .sl (cellsK ks) ks.length g ∧ env 4 = .ptr 4 1 0 ∧ env 5 = .ptr 5 1 0 ∧ env 6 = .int .i64 ((j : Int) - 1) ∧ s 4 = ⟨1, .buf [.int .i64 0, .bool false, .sl [] 0 .nil, .str [], .int .i64 0, .sl [] 0 .nil]⟩ ∧ s 5 = ⟨1, .buf (cellsT (listT (ks.drop j) t))⟩ ∧ j ≤ ks.length) (fun j => j) (fun _ => (.tree (encT (listT ks t)), [[], []])) ?_ n ks.length _ _ (by omega) ⟨(by simp only [zfk, ↓reduceIte, Nat.reduceEqDiff, env0, List.getElem?_cons_zero]; try rfl), (by simp only [zfk, ↓reduceIte, Nat.reduceEqDiff]; try rfl), (by simp only [zfk, ↓reduceIte, Nat.reduceEqDiff]; try rfl), (by simp only [zfk, ↓reduceIte, Nat.reduceEqDiff]; try rfl), (by simp only [zfk, ↓reduceIte, Nat.reduceEqDiff]; try rfl), by rw [List.drop_length]; exact (by simp only [zfk, ↓reduceIte, Nat.reduceEqDiff]; try rfl), Nat.le_refl _⟩
  intro rr j hr ih env st ⟨e0, e4, e5, e6, j4, j5, hj⟩
  cases j with
  | zero =>
    have q1 : ¬ (((0 : Nat) : Int) - 1 ≥ 0) := by omega
    rw [List.drop_zero] at j5
    simp only [simB, zbo, Nat.reduceBEq, own0, ↓reduceIte, Nat.reduceEqDiff, Nat.reduceAdd, simL, simN, Nat.zero_add, e0, e4, e5, e6, j4, j5, q1, ldT_u, st_Tt, stT_6]
    exact finish_cT _ _ _ _ _ (listT ks t) _ _ _ (by simp only [zfk, ↓reduceIte, Nat.reduceEqDiff, e4]; try rfl) (by simp only [zfk, ↓reduceIte, Nat.reduceEqDiff]; try rfl) rfl
  | succ i =>
    have e6 : env 6 = .int .i64 (i : Int) := by rw [e6]; congr 1; omega
    have q1 : (i : Int) ≥ 0 := by omega
    have hil : i < ks.length := by omega
    have f5 := i_sub Try.prog 3 (i : Int) 1 (by omega) (by omega)
    have hd : ks.drop i = ks[i] :: ks.drop (i + 1) := List.drop_eq_getElem_cons hil
    have ia := fun st => ia_K st ks g i hil
    rw [hd] at ia
    have ld := fun st => ld_K st ks[i] (ks.drop (i + 1))
    simp only [encT] at ld
    simp only [simB, zbo, Nat.reduceBEq, own0, ↓reduceIte, Nat.reduceEqDiff, Nat.reduceAdd, simL, simN, Nat.zero_add, e0, e4, e5, e6, j4, j5, q1, ia, ld, ldT_u, opA_duo26, duo26_T, bdT_cons, st_Tt, stT_u, f5]
    exact ih i _ _ (by omega) rfl ⟨(by simp only [zfk, ↓reduceIte, Nat.reduceEqDiff, e0]; try rfl), (by simp only [zfk, ↓reduceIte, Nat.reduceEqDiff, e4]; try rfl), (by simp only [zfk, ↓reduceIte, Nat.reduceEqDiff, e5]; try rfl), (by simp only [zfk, ↓reduceIte, Nat.reduceEqDiff]; try rfl), (by simp only [zfk, ↓reduceIte, Nat.reduceEqDiff, j4]; try rfl), by rw [hd]; exact (by simp only [zfk, ↓reduceIte, Nat.reduceEqDiff]; try rfl), by omega⟩
def ApI (s : St) (d : Nat) (x : AV) (us : List Int) : Prop := (us = [] ∧ x = .sl [] 0 .nil) ∨ (us ≠ [] ∧ ∃ t, x = .sl (intsA us) us.length (.tok d t) ∧ s d = ⟨t, .tok 1⟩)
def giOf (us : List Int) : Gk := if us = [] then .n else .l
theorem ApI.lent {s : St} {d : Nat} {x : AV} {us : List Int} (h : ApI s d x us) : isLent x = true ∧ loosen x = .sl (intsA us) us.length (gr (giOf us)) ∧ (isTree x = true → x = .sl (intsA us) us.length (gr (giOf us))) := by
  rcases h with ⟨rfl, rfl⟩ | ⟨hu, t, rfl, _⟩
  · exact ⟨rfl, rfl, fun _ => rfl⟩
  · exact ⟨rfl, by simp only [loosen, giOf, if_neg hu, gr], fun h => nomatch h⟩
end Go.Ab

/- Terms as bytes: what is written, what is read, in plain words. No conditions. -/
namespace Go.Ab
open Go.Proofs
set_option maxRecDepth 100000
set_option linter.unusedSimpArgs false

def T0 : T := .mk 0 false .n [] [] 0 .n []
theorem bdY_00 : buildA Try.prog 28 [] = some (.agg (cellsT T0)) := by
  simp only [buildA, zeroT, tkT, plT, Option.bind_some, fillA]; rfl
def u8 (z : Int) : UInt8 := UInt8.ofNat (z % 256).toNat
def be32 (v : Int) : List UInt8 := [u8 (v / 16777216), u8 (v / 65536), u8 (v / 256), u8 v]
def limB (l : List Nat) (i : Nat) : UInt8 := UInt8.ofNat (l.getD (i / 4) 0 / 2 ^ (8 * (i % 4)) % 256)
def limBs (l : List Nat) (k : Nat) : List UInt8 := (List.range k).map (limB l)
def numB (b : Bool) (l : List Nat) : List UInt8 :=
  if 0 ≤ numZ b l ∧ numZ b l ≤ 255 then [97, u8 (numZ b l)]
  else if -2147483648 ≤ numZ b l ∧ numZ b l ≤ 2147483647 then 98 :: be32 (numZ b l)
  else 110 :: u8 ((blen (numZ b l).natAbs + 7) / 8 : Nat) :: (if b then 1 else 0) :: limBs l ((blen (numZ b l).natAbs + 7) / 8)
mutual
def putA : T → List UInt8 × List UInt8 × Nat
  | .mk k b _ l s _ _ ks =>
    if k = 4 then (108 :: (be32 (putP ks).2 ++ (putP ks).1), (putP ks).1, (putP ks).2)
    else
      (if k = 1 then numB b l else if k = 2 then 119 :: u8 s.length :: s else if k = 3 then [106] else if k = 5 then 104 :: u8 ks.length :: putK ks else 109 :: (be32 s.length ++ s),
       if k = 1 then numB b l else if k = 2 then 119 :: u8 s.length :: s else if k = 3 then [106] else if k = 5 then 104 :: u8 ks.length :: putK ks else 109 :: (be32 s.length ++ s), 0)
def putK : List T → List UInt8
  | [] => []
  | t :: r => (putA t).1 ++ putK r
def putP : List T → List UInt8 × Nat
  | [] => ([], 1)
  | h :: r => ((putA h).1 ++ putQ r, putN r)
def putQ : List T → List UInt8
  | [] => []
  | t :: _ => (putA t).2.1
def putN : List T → Nat
  | [] => 1
  | t :: _ => (putA t).2.2 + 1
end
def putB (t : T) : List UInt8 := (putA t).1

structure RS where
  i : Nat
  tm : Int
  e : Int
def RS.fail (s : RS) (e : Int) : RS := if s.e = 0 then ⟨s.i, s.tm, e⟩ else s
def takeR (bs : List UInt8) (s : RS) (n : Nat) : Option (List UInt8) × RS :=
  if s.e ≠ 0 ∨ bs.length < s.i + n then (none, s.fail 3) else (some ((bs.drop s.i).take n), ⟨s.i + n, s.tm, s.e⟩)
def beV : List UInt8 → Int → Int
  | [], v => v
  | b :: r, v => beV r (v * 256 + (b.toNat : Int))
def manyR (bs : List UInt8) (s : RS) (n : Nat) (least most : Int) : Int × RS :=
  let o := takeR bs s n
  let v := beV (o.1.getD []) 0
  if o.2.e ≠ 0 then (0, o.2) else if v < least ∨ most < v then (0, o.2.fail 4) else (v, o.2)
def limR (x : List UInt8) : Nat → Nat → List Nat
  | 0, _ => []
  | m + 1, j => ((x.getD (4 * j) 0).toNat + 256 * (x.getD (4 * j + 1) 0).toNat + 65536 * (x.getD (4 * j + 2) 0).toNat + 16777216 * (x.getD (4 * j + 3) 0).toNat) :: limR x m (j + 1)
def bigR (x : List UInt8) : Bool × Gk × List Nat := if x.length < 2 then (false, .n, []) else (x.headD 0 == 1, .l, limR x.tail ((x.length + 2) / 4) 0)
def i32 (v : Int) : Int := if v < 2147483648 then v else v - 4294967296
def int0 : T := .mk 1 false .n [] [] 0 .n []
def one97 : List UInt8 → T
  | [x] => smallT (x.toNat : Int)
  | _ => int0
def plainR (bs : List UInt8) (s : RS) (tag : Nat) (from_ : Nat) : T × RS :=
  let p : T × RS :=
    if tag = 97 then
      let o := takeR bs s 1
      (one97 (o.1.getD []), o.2)
    else if tag = 98 then
      let o := takeR bs s 4
      (match o.1 with | some x => smallT (i32 (beV x 0)) | none => .mk 1 false .n [] [] 0 .n [], o.2)
    else if tag = 110 then
      let m := manyR bs s 1 1 48
      let o := takeR bs m.2 (1 + m.1.toNat)
      let g := bigR (o.1.getD [])
      (.mk 1 g.1 g.2.1 g.2.2 [] 0 .n [], o.2)
    else if tag = 119 then
      let m := manyR bs s 1 1 40
      let o := takeR bs m.2 m.1.toNat
      (.mk 2 false .n [] (o.1.getD []) 0 .n [], o.2)
    else if tag = 109 then
      let m := manyR bs s 4 0 400
      let o := takeR bs m.2 m.1.toNat
      (.mk 6 false .n [] (o.1.getD []) 0 .n [], o.2)
    else (nilT', s)
  (p.1, if p.2.e = 0 ∧ ¬ (putB p.1 = (bs.drop from_).take (p.2.i - from_) ∧ ownT p.1 = true) then p.2.fail 4 else p.2)
def someR (rd : RS → T × RS) : Nat → RS → List T → List T × RS
  | 0, s, acc => (acc, s)
  | n + 1, s, acc => let r := rd s; if r.2.e ≠ 0 then (acc, r.2) else someR rd n r.2 (acc ++ [r.1])
def termR (bs : List UInt8) : Nat → Int → RS → T × RS
  | 0, _, s => (T0, s)
  | f + 1, deep, s =>
    let o := takeR bs s 1
    if o.2.e ≠ 0 then (T0, o.2) else
    let s1 : RS := ⟨o.2.i, o.2.tm + 1, o.2.e⟩
    let tag := ((o.1.getD []).headD 0).toNat
    if s1.tm > 2000 ∨ deep > 60 then (T0, s1.fail 4)
    else if tag = 97 ∨ tag = 98 ∨ tag = 110 ∨ tag = 119 ∨ tag = 109 ∨ tag = 106 then plainR bs s1 tag s.i
    else if tag = 108 then
      let m := manyR bs s1 4 1 (2001 - s1.tm)
      let h := someR (termR bs f (deep + 1)) m.1.toNat ⟨m.2.i, m.2.tm + (m.1 - 1), m.2.e⟩ []
      let t := termR bs f deep h.2
      (listT h.1 t.1, if kindT t.1 = 4 then t.2.fail 4 else t.2)
    else if tag = 104 then
      let m := manyR bs s1 1 0 40
      let h := someR (termR bs f (deep + 1)) m.1.toNat m.2 []
      (tupT (kgOf h.1) h.1, h.2)
    else (T0, s1.fail 4)
def getR (bs : List UInt8) (at_ : Int) : T × Int × Int :=
  if at_ < 0 ∨ at_ > bs.length then (T0, 0, 1) else
  let r := termR bs (bs.length + 2) 1 ⟨at_.toNat, 0, 0⟩
  if r.2.e ≠ 0 then (T0, 0, r.2.e) else (r.1, (r.2.i : Int), 0)
end Go.Ab

/- Terms that may be: by their parts; as term.Check and relictref03.Check count them. No conditions. -/
namespace Go.Ab
open Go.Proofs
set_option maxRecDepth 100000
set_option linter.unusedSimpArgs false

mutual
def okD : T → Int → Prop
  | .mk k b lg l s n kg ks, d => d ≤ 60 ∧ ownT (.mk k b lg l s n kg ks) = true ∧ okJ k ks 0 d
def okJ (k : Int) : List T → Nat → Int → Prop
  | [], _, _ => True
  | t :: r, i, d => okD t (if k = 4 ∧ i = 1 then d else d + 1) ∧ okJ k r (i + 1) d
end
mutual
theorem rw_okD : ∀ (t : T) (deep n : Int), 0 ≤ n → 0 ≤ rwT t deep n → okD t deep ∧ rwT t deep n = n + nodT t ∧ rwT t deep n ≤ 2000
  | .mk k b lg l s m kg ks, deep, n, hn, h => by
    simp only [rwT, nodT] at h ⊢
    split at h
    · omega
    · rename_i hg
      have ho : ownT (.mk k b lg l s m kg ks) = true := by
        cases h0 : ownT (.mk k b lg l s m kg ks)
        · exact absurd (.inr (.inr h0)) hg
        · rfl
      have hd : deep ≤ 60 := by omega
      simp only [hg, ↓reduceIte]
      have := rw_okJ k ks 0 deep (n + 1) (by omega) (by omega) h
      simp only [okD]
      exact ⟨⟨hd, ho, this.1⟩, by omega, this.2.2⟩
theorem rw_okJ (k : Int) : ∀ (ks : List T) (i : Nat) (deep n : Int), 0 ≤ n → n ≤ 2000 → 0 ≤ rwK k ks i deep n → okJ k ks i deep ∧ rwK k ks i deep n = n + nodK ks ∧ rwK k ks i deep n ≤ 2000
  | [], i, deep, n, hn, hn2, h => by simp only [rwK, okJ, nodK] at h ⊢; exact ⟨trivial, by omega, hn2⟩
  | t :: r, i, deep, n, hn, hn2, h => by
    simp only [rwK, okJ, nodK] at h ⊢
    generalize (if k = 4 ∧ i = 1 then deep else deep + 1) = dd at h ⊢
    split at h
    · omega
    · rename_i hg
      have a := rw_okD t dd n hn (by omega)
      have b := rw_okJ k r (i + 1) deep _ (by omega) (by omega) h
      simp only [hg, ↓reduceIte]
      exact ⟨⟨a.1, b.1⟩, by omega, b.2.2⟩
end
mutual
theorem okD_rw : ∀ (t : T) (deep n : Int), okD t deep → 0 ≤ n → n + nodT t ≤ 2000 → rwT t deep n = n + nodT t
  | .mk k b lg l s m kg ks, deep, n, h, hn, h2 => by
    simp only [okD] at h
    simp only [nodT] at h2 ⊢
    simp only [rwT]
    rw [if_neg (by rw [h.2.1]; simp; omega)]
    rw [okJ_rw k ks 0 deep (n + 1) h.2.2 (by omega) (by omega)]
    omega
theorem okJ_rw (k : Int) : ∀ (ks : List T) (i : Nat) (deep n : Int), okJ k ks i deep → 0 ≤ n → n + nodK ks ≤ 2000 → rwK k ks i deep n = n + nodK ks
  | [], i, deep, n, _, _, _ => by simp only [rwK, nodK]; omega
  | t :: r, i, deep, n, h, hn, h2 => by
    simp only [okJ] at h
    simp only [nodK] at h2 ⊢
    simp only [rwK]
    have a := okD_rw t _ n h.1 hn (by omega)
    rw [a, if_neg (by omega)]
    rw [okJ_rw k r (i + 1) deep _ h.2 (by omega) (by omega)]
    omega
end
theorem okJ_no4 {k : Int} (hk : k ≠ 4) : ∀ (ks : List T) (i j : Nat) (d : Int), okJ k ks i d ↔ okJ k ks j d
  | [], _, _, _ => by simp only [okJ]
  | t :: r, i, j, d => by
    simp only [okJ]
    rw [if_neg (by omega), if_neg (by omega), okJ_no4 hk r (i + 1) (j + 1) d]
mutual
theorem chk_okD : ∀ (t : T) (deep left : Int), (chkT t deep left).1 = true → okD t deep
  | .mk k b lg l s m kg ks, deep, left, h => by
    simp only [chkT] at h
    split at h
    · cases h
    · rename_i hg
      have ho : ownT (.mk k b lg l s m kg ks) = true := by
        cases h0 : ownT (.mk k b lg l s m kg ks)
        · exact absurd (.inr (.inr h0)) hg
        · rfl
      simp only [okD]
      refine ⟨by omega, ho, ?_⟩
      split at h
      · rename_i hk
        subst hk
        exact chk_okC ks deep _ ho h
      · rename_i hk
        exact (okJ_no4 hk ks 0 0 deep).1 (chk_okK k hk ks deep _ h)
theorem chk_okC {b : Bool} {lg : Gk} {l : List Nat} {s : List UInt8} {m : Int} {kg : Gk} : ∀ (ks : List T) (deep left : Int), ownT (.mk 4 b lg l s m kg ks) = true → (chkC ks deep left).1 = true → okJ 4 ks 0 deep
  | [], deep, left, _, h => by simp only [okJ]
  | [x], deep, left, ho, h => by
    obtain ⟨_, _, e⟩ := own_kids ho rfl
    cases e
  | [x, y], deep, left, ho, h => by
    simp only [chkC, chkL] at h
    simp only [okJ, and_true]
    split at h
    · rename_i h1
      exact ⟨by simpa using chk_okD x _ _ h1, by simpa using chk_okD y _ _ h⟩
    · rename_i h1; exact absurd h h1
  | x :: y :: z :: r, deep, left, ho, h => by
    obtain ⟨_, _, e⟩ := own_kids ho rfl
    cases e
theorem chk_okK (k : Int) (hk : k ≠ 4) : ∀ (ks : List T) (deep left : Int), (chkK ks (deep + 1) left).1 = true → okJ k ks 0 deep
  | [], deep, left, h => by simp only [okJ]
  | t :: r, deep, left, h => by
    simp only [chkK] at h
    simp only [okJ]
    split at h
    · rename_i h1
      refine ⟨?_, (okJ_no4 hk r 0 1 deep).1 (chk_okK k hk r deep _ h)⟩
      rw [if_neg (by omega)]
      exact chk_okD t _ _ h1
    · rename_i h1; exact absurd h h1
end
mutual
theorem okD_chk : ∀ (t : T) (deep left : Int), okD t deep → nodT t ≤ left → chkT t deep left = (true, left - nodT t)
  | .mk k b lg l s m kg ks, deep, left, h, hl => by
    simp only [okD] at h
    simp only [nodT] at hl ⊢
    simp only [chkT]
    rw [if_neg (by rw [h.2.1]; simp; omega)]
    split
    · rename_i hk
      subst hk
      rw [okJ_chkC ks deep _ h.2.1 h.2.2 (by omega)]
      congr 1; omega
    · rename_i hk
      rw [okJ_chkK k hk ks 0 deep _ h.2.2 (by omega)]
      congr 1; omega
theorem okJ_chkC {b : Bool} {lg : Gk} {l : List Nat} {s : List UInt8} {m : Int} {kg : Gk} : ∀ (ks : List T) (deep left : Int), ownT (.mk 4 b lg l s m kg ks) = true → okJ 4 ks 0 deep → nodK ks ≤ left → chkC ks deep left = (true, left - nodK ks)
  | [], deep, left, ho, h, _ => by
    obtain ⟨_, _, e⟩ := own_kids ho rfl
    cases e
  | [x], deep, left, ho, h, _ => by
    obtain ⟨_, _, e⟩ := own_kids ho rfl
    cases e
  | [x, y], deep, left, ho, h, hl => by
    simp only [okJ, and_true] at h
    simp only [nodK] at hl ⊢
    have h1 : okD x (deep + 1) := by simpa using h.1
    have h2 : okD y deep := by simpa using h.2
    simp only [chkC, chkL]
    rw [okD_chk x _ _ h1 (by omega)]
    simp only [if_true]
    rw [okD_chk y _ _ h2 (by omega)]
    congr 1; omega
  | x :: y :: z :: r, deep, left, ho, h, _ => by
    obtain ⟨_, _, e⟩ := own_kids ho rfl
    cases e
theorem okJ_chkK (k : Int) (hk : k ≠ 4) : ∀ (ks : List T) (i : Nat) (deep left : Int), okJ k ks i deep → nodK ks ≤ left → chkK ks (deep + 1) left = (true, left - nodK ks)
  | [], i, deep, left, h, hl => by simp only [chkK, nodK]; congr 1; omega
  | t :: r, i, deep, left, h, hl => by
    simp only [okJ] at h
    simp only [nodK] at hl ⊢
    have h1 : okD t (deep + 1) := by have := h.1; rwa [if_neg (by omega)] at this
    simp only [chkK]
    rw [okD_chk t _ _ h1 (by omega)]
    simp only [if_true]
    rw [okJ_chkK k hk r (i + 1) deep _ h.2 (by omega)]
    congr 1; omega
end
end Go.Ab

/- The run of what writes and reads bytes; bytes put behind others (CFG5). Conditions: lengths in range. -/
namespace Go.Ab
open Go.Proofs
set_option maxRecDepth 100000
set_option linter.unusedSimpArgs false

def run5 (f : FuncId) : Bool := f == 47 || f == 49 || f == 46 || f == 48 || f == 28 || f == 30 || f == 52 || f == 51 || f == 31 || f == 53 || f == 54 || f == 55 || f == 56 || f == 57 || f == 58 || f == 32 || f == 59 || f == 60 || f == 61 || f == 62 || f == 64 || f == 65 || f == 66 || f == 10 || f == 13 || f == 83 || f == 12 || f == 14 || f == 3 || f == 4 || f == 5 || f == 6 || f == 7 || f == 9 || f == 17 || f == 11 || f == 8388755
noncomputable def prim5 (f : FuncId) (xs : List Arg) : Option Out := match run5 f with
  | true => none
  | false => evalFn Try.prog cfg0 9223372036854775808 6190 f xs
def keep5' (f : FuncId) : Bool := f == 47 || f == 49 || f == 46 || f == 48 || f == 28 || f == 30 || f == 52 || f == 51 || f == 1048623 || f == 1048625 || f == 1048622 || f == 1048624 || f == 1048604 || f == 1048606 || f == 1048628 || f == 1048627 || f == 1048607 || f == 1048629 || f == 1048630 || f == 1048631 || f == 1048632 || f == 1048633 || f == 1048634 || f == 1048608 || f == 1048635 || f == 1048636 || f == 1048637 || f == 1048638 || f == 1048640 || f == 1048641 || f == 1048642 || f == 17 || f == 8388755
def lin5' (f : FuncId) (j : Nat) : Bool := j == 0 && (f == 47 || f == 49 || f == 46 || f == 48 || f == 28 || f == 30 || f == 52 || f == 51)
noncomputable def cfg5 : Cfg := ⟨lin5', keep5', prim5, fun p => p == "&ext.go:173" || p == "=ext.go:173" || p == "@ext.go:70" || p == "@ext.go:35" || p == "@ext.go:91" || p == "@ref.go:67" || p == "@ref.go:37" || p == "@ref.go:16" || p == "^law.go:41" || p == "/law.go:23" || p == "=law.go:33" || p == "=ref.go:189" || p == "#ref.go:142"⟩
theorem own5 (p : String) : cfg5.ownAt p = (p == "&ext.go:173" || p == "=ext.go:173" || p == "@ext.go:70" || p == "@ext.go:35" || p == "@ext.go:91" || p == "@ref.go:67" || p == "@ref.go:37" || p == "@ref.go:16" || p == "^law.go:41" || p == "/law.go:23" || p == "=law.go:33" || p == "=ref.go:189" || p == "#ref.go:142") := rfl
theorem keep5 (f : FuncId) : cfg5.keep f = (f == 47 || f == 49 || f == 46 || f == 48 || f == 28 || f == 30 || f == 52 || f == 51 || f == 1048623 || f == 1048625 || f == 1048622 || f == 1048624 || f == 1048604 || f == 1048606 || f == 1048628 || f == 1048627 || f == 1048607 || f == 1048629 || f == 1048630 || f == 1048631 || f == 1048632 || f == 1048633 || f == 1048634 || f == 1048608 || f == 1048635 || f == 1048636 || f == 1048637 || f == 1048638 || f == 1048640 || f == 1048641 || f == 1048642 || f == 17 || f == 8388755) := by
  show keep5' f = _
  unfold keep5'
  rfl
theorem lin5 (f : FuncId) (j : Nat) : cfg5.lin f j = (j == 0 && (f == 47 || f == 49 || f == 46 || f == 48 || f == 28 || f == 30 || f == 52 || f == 51)) := by
  show lin5' f j = _
  unfold lin5'
  rfl
theorem ev5 {n d : Nat} {f : FuncId} {xs : List Arg} {o : Out} (h1 : run5 f = false) (h : evalFn Try.prog cfg0 9223372036854775808 6190 f xs = some o) : evalFn Try.prog cfg5 n (d+1) f xs = some o := by
  have hc : cfg5.prim = prim5 := rfl
  have hp : prim5 f xs = some o := by unfold prim5; rw [h1]; exact h
  rw [evalFn]
  simp only [hc, hp]

theorem cB_len (bs : List UInt8) : (cellsOfBytes bs).length = bs.length := List.length_map _
theorem cB_app (a b : List UInt8) : cellsOfBytes (a ++ b) = cellsOfBytes a ++ cellsOfBytes b := List.map_append
theorem cB_take (bs : List UInt8) (i : Nat) : (cellsOfBytes bs).take i = cellsOfBytes (bs.take i) := (List.map_take ..).symm
theorem cB_drop (bs : List UInt8) (i : Nat) : (cellsOfBytes bs).drop i = cellsOfBytes (bs.drop i) := (List.map_drop ..).symm
theorem bytesOf_cB : ∀ bs : List UInt8, bytesOf (cellsOfBytes bs) = some bs
  | [] => rfl
  | b :: r => by
    have h := bytesOf_cB r
    simp only [cellsOfBytes, List.map_cons, bytesOf] at h ⊢
    rw [h]
    simp
theorem tkB : tkOf Try.prog 22 = .sl 5 := by kernel_rfl
theorem tkU8 : tkOf Try.prog 5 = .int .u8 := by kernel_rfl
theorem eszB : esz Try.prog 5 = some 1 := by kernel_rfl
theorem zeroB8 : zeroOf Try.prog 5 = some [.int .u8 0] := by kernel_rfl
theorem byB : byOf Try.prog 5 = 1 := by kernel_rfl
def Base (a : Arg) (bs : List UInt8) : Prop := (∃ g, (g = .tight ∨ g = .nil) ∧ a = .tree (.sl (cellsOfBytes bs) bs.length g)) ∨ a = .tok (cellsOfBytes bs) bs.length 1
def Bs (st : St) (p : Nat) (x : AV) (bs : List UInt8) : Prop := (∃ g, (g = .tight ∨ g = .nil) ∧ x = .sl (cellsOfBytes bs) bs.length g) ∨ ∃ t, x = .sl (cellsOfBytes bs) bs.length (.tok p t) ∧ st p = ⟨t, .tok 1⟩
theorem Base.start {a : Arg} {bs : List UInt8} (h : Base a bs) (r : List Arg) : Bs (st0 (a :: r)) 0 (env0 (a :: r) 0) bs := by
  rcases h with ⟨g, hg, rfl⟩ | rfl
  · exact .inl ⟨g, hg, rfl⟩
  · exact .inr ⟨0, rfl, rfl⟩
theorem Base.outs {a : Arg} {bs : List UInt8} (h : Base a bs) (s : St) (vs : List AV) : outsA s 0 (a :: vs.map .tree) = some ([] :: vs.map fun _ => []) := by
  have h2 : ∀ (vs : List AV) (k : Nat), outsA s k (vs.map .tree) = some (vs.map fun _ => []) := by
    intro vs
    induction vs with
    | nil => intro k; rfl
    | cons v vs ih => intro k; simp only [List.map_cons, outsA, ih, Option.bind_some, Option.map_some]
  rcases h with ⟨g, hg, rfl⟩ | rfl
  · simp only [outsA, h2, Option.bind_some, Option.map_some]
  · simp only [outsA, h2, Option.bind_some, Option.map_some]
theorem Bs.call {call : FuncId → List Arg → Option Out} {f : FuncId} {st : St} {p : Nat} {x : AV} {bs : List UInt8} (h : Bs st p x bs) (hl : cfg5.lin f 0 = true) (vs : List AV) (ht : vs.all isTree = true) (bs' : List UInt8)
    (hc : ∀ a, Base a bs → call f (a :: vs.map .tree) = some (.tok (cellsOfBytes bs') bs'.length 1, [] :: vs.map fun _ => [])) (D : Nat) :
    ∃ st' t', callA cfg5 call D st f (x :: vs) = some (.sl (cellsOfBytes bs') bs'.length (.tok D t'), st') ∧ st' D = ⟨t', .tok 1⟩ ∧ ∀ q, q ≠ D → q ≠ p → st' q = st q := by
  rcases h with ⟨g, hg, rfl⟩ | ⟨t, rfl, hp⟩
  · have hx : isTree (.sl (cellsOfBytes bs) bs.length g) = true := by rcases hg with rfl | rfl <;> rfl
    have hall : ((AV.sl (cellsOfBytes bs) bs.length g) :: vs).all isTree = true := by simp only [List.all_cons, hx, ht, Bool.and_self]
    have h1 := hc _ (.inl ⟨g, hg, rfl⟩)
    refine ⟨upd st D ⟨(st D).t + 1, .tok 1⟩, (st D).t + 1, ?_, by simp [upd], fun q hq _ => upd_ne _ _ hq⟩
    have e1 : (AV.sl (cellsOfBytes bs) bs.length g :: vs).map Arg.tree = .tree (.sl (cellsOfBytes bs) bs.length g) :: vs.map .tree := rfl
    have e2 : ([] : List AV) :: vs.map (fun _ => ([] : List AV)) = (AV.sl (cellsOfBytes bs) bs.length g :: vs).map (fun _ => []) := rfl
    rw [← e1, e2] at h1
    simp only [callA, argsA_trees f st _ 0 hall, Option.bind_some, givesL_trees, lendsL_trees _ hall, List.nodup_nil, List.not_mem_nil, false_implies, implies_true, and_self, if_true, h1, List.foldl_nil, ite_self, backA_trees, resA]
  · have h1 := hc _ (.inr rfl)
    have ha : argA cfg5 f st 0 (.sl (cellsOfBytes bs) bs.length (.tok p t)) = some (.tok (cellsOfBytes bs) bs.length 1) := by
      simp only [argA, hl, if_true, hp]
      rw [if_pos ⟨trivial, by rw [cB_len, Nat.mul_one]⟩]
    have hgl : givesL (.sl (cellsOfBytes bs) bs.length (.tok p t) :: vs) (.tok (cellsOfBytes bs) bs.length 1 :: vs.map .tree) = [p] := by simp only [givesL, givesOf, givesL_trees]
    have hll : lendsL (.sl (cellsOfBytes bs) bs.length (.tok p t) :: vs) (.tok (cellsOfBytes bs) bs.length 1 :: vs.map .tree) = [] := by simp only [lendsL, lendsOf, lendsL_trees vs ht]
    refine ⟨upd (upd st p ⟨t, .dead⟩) D ⟨((upd st p ⟨t, .dead⟩) D).t + 1, .tok 1⟩, ((upd st p ⟨t, .dead⟩) D).t + 1, ?_, by simp [upd], fun q hq hqp => by rw [upd_ne _ _ hq, upd_ne _ _ hqp]⟩
    simp only [callA, argsA, ha, argsA_trees f st vs 1 ht, Option.bind_some, Option.map_some, hgl, hll, List.nodup_cons, List.nodup_nil, List.not_mem_nil, not_false_eq_true, false_implies, implies_true, and_self, if_true, h1, List.foldl_nil, ite_self, backA, givesOf, backA_trees, hp, resA]
theorem finish_Bs {a : Arg} {bs0 : List UInt8} (hb : Base a bs0) (vs : List AV) (k : Bool) (hk : k = true) (t p i : Nat) (bs : List UInt8) (env : Env) (s : St) (hv : env t = .sl (cellsOfBytes bs) bs.length (.tok p i)) (hs : s p = ⟨i, .tok 1⟩) :
    finishP Try.prog k (a :: vs.map .tree) #[.tmp t] env s = some (.tok (cellsOfBytes bs) bs.length 1, [] :: vs.map fun _ => []) := by
  subst hk
  rw [finishP_t1]
  simp only [finish, finish1, hv, if_true, hs, Option.bind_some, hb.outs, Option.map_some]
theorem appendB {st : St} {p : Nat} {x : AV} {a : List UInt8} (h : Bs st p x a) (b : List UInt8) (g : Grip) (_hg : g.isTok = false) (hl : a.length + b.length ≤ 1000000000000) (D : Nat) :
    ∃ st' t', appendA Try.prog #[22, 22] D st x (.sl (cellsOfBytes b) b.length g) = some (.sl (cellsOfBytes (a ++ b)) (a ++ b).length (.tok D t'), st') ∧ st' D = ⟨t', .tok 1⟩ ∧ ∀ q, q ≠ D → q ≠ p → st' q = st q := by
  have hm : ∀ s, moreA Try.prog 5 1 (some 22) s (.sl (cellsOfBytes b) b.length g) = some (cellsOfBytes b, b.length) := fun s => by
    simp only [moreA, Option.map_some, tkB, cB_len, Nat.mul_one, if_true]
  have hz : (zeroOf Try.prog 5).map List.length = some 1 := by rw [zeroB8]; rfl
  rcases h with ⟨g', hg', rfl⟩ | ⟨t, rfl, hp⟩
  · refine ⟨upd st D ⟨(st D).t + 1, .tok 1⟩, (st D).t + 1, ?_, by simp [upd], fun q hq _ => upd_ne _ _ hq⟩
    have hb : baseA 1 st (.sl (cellsOfBytes a) a.length g') = some (cellsOfBytes a, a.length, st) := by
      rcases hg' with rfl | rfl <;> simp only [baseA, cB_len, Nat.mul_one, if_true]
    simp only [appendA, List.getElem?_toArray, List.getElem?_cons_zero, List.getElem?_cons_succ, Option.map_some, tkB, eszB, Option.bind_some, hm, hb, byB]
    rw [if_pos ⟨by omega, by omega, hz⟩, cB_app, List.length_append]
  · refine ⟨upd (upd st p ⟨t, .dead⟩) D ⟨((upd st p ⟨t, .dead⟩) D).t + 1, .tok 1⟩, ((upd st p ⟨t, .dead⟩) D).t + 1, ?_, by simp [upd], fun q hq hqp => by rw [upd_ne _ _ hq, upd_ne _ _ hqp]⟩
    have hb : baseA 1 st (.sl (cellsOfBytes a) a.length (.tok p t)) = some (cellsOfBytes a, a.length, upd st p ⟨t, .dead⟩) := by
      simp only [baseA, hp]
      rw [if_pos ⟨trivial, trivial, by rw [cB_len, Nat.mul_one]⟩]
    simp only [appendA, List.getElem?_toArray, List.getElem?_cons_zero, List.getElem?_cons_succ, Option.map_some, tkB, eszB, Option.bind_some, hm, hb, byB]
    rw [if_pos ⟨by omega, by omega, hz⟩, cB_app, List.length_append]
set_option maxHeartbeats 4000000 in
theorem put_eq (n d : Nat) {a : Arg} {bs : List UInt8} (ha : Base a bs) (b : List UInt8) (g : Grip) (hg : g.isTok = false) (hl : bs.length + b.length ≤ 1000000000000) :
    evalFn Try.prog cfg5 n (d+1) 47 [a, .tree (.sl (cellsOfBytes b) b.length g)] = some (.tok (cellsOfBytes (bs ++ b)) (bs ++ b).length 1, [[], []]) := by
  rw [evalFn_go _ Try.func47 (by unfold Try.f47; rfl) (by unfold Try.f47; decide) (Nat.le_of_ble_eq_true (by unfold Try.f47; rfl)) (by kernel_rfl)]
  have hB := ha.start [.tree (.sl (cellsOfBytes b) b.length g)]
  have e1 : env0 [a, .tree (.sl (cellsOfBytes b) b.length g)] 1 = .sl (cellsOfBytes b) b.length g := rfl
  generalize env0 [a, .tree (.sl (cellsOfBytes b) b.length g)] = env at hB e1
  generalize st0 [a, .tree (.sl (cellsOfBytes b) b.length g)] = st at hB
  generalize e0 : env 0 = x at hB
  obtain ⟨st', t', c1, c2, c3⟩ := appendB hB b g hg hl 7
  simp only [simB, keep5, Nat.reduceBEq, own5, String.reduceAppend, String.reduceBEq, Bool.or_false, Bool.or_true, Bool.or_self, ↓reduceIte, Nat.reduceEqDiff, Nat.reduceAdd, simL, simN, Nat.zero_add, e0, e1, c1]
  exact finish_Bs ha [.sl (cellsOfBytes b) b.length g] _ rfl _ 7 t' _ _ _ (by simp only [zfk, ↓reduceIte, Nat.reduceEqDiff]; try rfl) c2
end Go.Ab

/- Four bytes, a number's bytes put behind others (CFG5). Conditions: lengths in range. -/
namespace Go.Ab
open Go.Proofs
set_option maxRecDepth 100000
set_option linter.unusedSimpArgs false

theorem u8_val (z : Int) : ((u8 z).toNat : Int) = z % 256 := by
  have h1 : (z % 256).toNat < 256 := by omega
  simp only [u8, UInt8.toNat_ofNat']
  omega
theorem conv3_5b (s : St) (z : Int) : convA Try.prog 3 5 s (.int .i64 z) = some (.int .u8 ((u8 z).toNat : Int)) := by
  simp only [convA, tk3, tkU8, u8_val]
  congr 2
theorem conv31_5b (s : St) (x : Nat) : convA Try.prog 56 5 s (.int .u32 (x : Int)) = some (.int .u8 ((UInt8.ofNat (x % 256)).toNat : Int)) := by
  have h1 : x % 256 < 256 := by omega
  simp only [convA, tk31, tkU8, UInt8.toNat_ofNat']
  have e : IntKind.u8.wrap (x : Int) = (x : Int) % 256 := rfl
  rw [e]
  congr 2
  omega
def lit1 (x : AV) : Option AV := (fillA (fun i => some (i * 1, 1)) (rep 1 [.int .u8 0]) [(0, x)]).map (.sl · 1 .tight)
def lit2 (x y : AV) : Option AV := (fillA (fun i => some (i * 1, 1)) (rep 2 [.int .u8 0]) [(0, x), (1, y)]).map (.sl · 2 .tight)
def lit3 (x y z : AV) : Option AV := (fillA (fun i => some (i * 1, 1)) (rep 3 [.int .u8 0]) [(0, x), (1, y), (2, z)]).map (.sl · 3 .tight)
def lit4 (x y z w : AV) : Option AV := (fillA (fun i => some (i * 1, 1)) (rep 4 [.int .u8 0]) [(0, x), (1, y), (2, z), (3, w)]).map (.sl · 4 .tight)
section
variable (call : FuncId → List Arg → Option Out) (q : Bool) (d : Option Tmp) (ty : TypeId) (pos : String) (af : Array Edge) (g : Option (Nat × Bool)) (t : Nat) (env : Env) (s : St) (x y z w : Operand)
theorem opA_lit1 : opA Try.prog cfg5 call q ⟨d, .buildSlice 22 1 #[(0, x)], ty, pos, af, g⟩ t env s = (lit1 (ev env x)).map (·, s) := by
  simp only [opA, tkB, eszB, zeroB8, Option.bind_some, List.map_cons, List.map_nil]
  rfl
theorem opA_lit2 : opA Try.prog cfg5 call q ⟨d, .buildSlice 22 2 #[(0, x), (1, y)], ty, pos, af, g⟩ t env s = (lit2 (ev env x) (ev env y)).map (·, s) := by
  simp only [opA, tkB, eszB, zeroB8, Option.bind_some, List.map_cons, List.map_nil]
  rfl
theorem opA_lit3 : opA Try.prog cfg5 call q ⟨d, .buildSlice 22 3 #[(0, x), (1, y), (2, z)], ty, pos, af, g⟩ t env s = (lit3 (ev env x) (ev env y) (ev env z)).map (·, s) := by
  simp only [opA, tkB, eszB, zeroB8, Option.bind_some, List.map_cons, List.map_nil]
  rfl
theorem opA_lit4 : opA Try.prog cfg5 call q ⟨d, .buildSlice 22 4 #[(0, x), (1, y), (2, z), (3, w)], ty, pos, af, g⟩ t env s = (lit4 (ev env x) (ev env y) (ev env z) (ev env w)).map (·, s) := by
  simp only [opA, tkB, eszB, zeroB8, Option.bind_some, List.map_cons, List.map_nil]
  rfl
end
theorem lit1_b (a : Int) : lit1 (.int .u8 a) = some (.sl [.int .u8 a] 1 .tight) := rfl
theorem lit2_b (a b : Int) : lit2 (.int .u8 a) (.int .u8 b) = some (.sl [.int .u8 a, .int .u8 b] 2 .tight) := rfl
theorem lit3_b (a b c : Int) : lit3 (.int .u8 a) (.int .u8 b) (.int .u8 c) = some (.sl [.int .u8 a, .int .u8 b, .int .u8 c] 3 .tight) := rfl
theorem lit4_b (a b c d : Int) : lit4 (.int .u8 a) (.int .u8 b) (.int .u8 c) (.int .u8 d) = some (.sl [.int .u8 a, .int .u8 b, .int .u8 c, .int .u8 d] 4 .tight) := rfl
theorem linPut : cfg5.lin 47 0 = true := by rw [lin5]; rfl
theorem linWord : cfg5.lin 49 0 = true := by rw [lin5]; rfl
theorem linNumber : cfg5.lin 46 0 = true := by rw [lin5]; rfl
theorem linTerm1 : cfg5.lin 28 0 = true := by rw [lin5]; rfl
theorem linList : cfg5.lin 48 0 = true := by rw [lin5]; rfl
theorem Bs.put {n d : Nat} {st : St} {p : Nat} {x : AV} {bs : List UInt8} (h : Bs st p x bs) (b : List UInt8) (g : Grip) (hg : isTree (.sl (cellsOfBytes b) b.length g) = true) (hl : bs.length + b.length ≤ 1000000000000) (D : Nat) :
    ∃ st' t', callA cfg5 (evalFn Try.prog cfg5 n (d+1)) D st 47 [x, .sl (cellsOfBytes b) b.length g] = some (.sl (cellsOfBytes (bs ++ b)) (bs ++ b).length (.tok D t'), st') ∧ st' D = ⟨t', .tok 1⟩ ∧ ∀ q, q ≠ D → q ≠ p → st' q = st q :=
  h.call linPut [.sl (cellsOfBytes b) b.length g] (by simp only [List.all_cons, hg, List.all_nil, Bool.and_self]) (bs ++ b) (fun a ha => put_eq n d ha b g (by cases g <;> first | rfl | cases hg) hl) D
theorem i_shrY (P : Program) (t : TypeId) (a : Int) (k : IntKind) (K : Nat) (hK : K ≤ 64) : binA P .shr t (.int .i64 a) (.int k (K : Int)) = some (.int .i64 (a.fdiv (2 ^ K))) := by
  have hm : min ((K : Int).toNat) 64 = K := by omega
  simp only [binA, shA, IntKind.bits]
  rw [if_neg (by omega)]
  simp only [hm]
theorem be_shr (v : Int) (K : Nat) : v.fdiv (2 ^ K) = v / 2 ^ K := Int.fdiv_eq_ediv_of_nonneg _ (by exact Int.le_of_lt (Int.pow_pos (by decide)))
set_option maxHeartbeats 4000000 in
theorem ewrd_eq (n d : Nat) {a : Arg} {bs : List UInt8} (ha : Base a bs) (v : Int) (hl : bs.length + 4 ≤ 1000000000000) :
    evalFn Try.prog cfg5 n (d+2) 49 [a, .tree (.int .i64 v)] = some (.tok (cellsOfBytes (bs ++ be32 v)) (bs ++ be32 v).length 1, [[], []]) := by
  rw [evalFn_go _ Try.func49 (by unfold Try.f49; rfl) (by unfold Try.f49; decide) (Nat.le_of_ble_eq_true (by unfold Try.f49; rfl)) (by kernel_rfl)]
  have hB := ha.start [.tree (.int .i64 v)]
  have e1 : env0 [a, .tree (.int .i64 v)] 1 = .int .i64 v := rfl
  generalize env0 [a, .tree (.int .i64 v)] = env at hB e1
  generalize st0 [a, .tree (.int .i64 v)] = st at hB
  generalize e0 : env 0 = x at hB
  obtain ⟨st', t', c1, c2, c3⟩ := hB.put (n := n) (d := d) (be32 v) .tight rfl hl 18
  have s1 : binA Try.prog .shr 3 (.int .i64 v) (.int .u64 24) = some (.int .i64 (v / 2 ^ 24)) := by rw [← be_shr]; exact i_shrY Try.prog 3 v .u64 24 (by decide)
  have s2 : binA Try.prog .shr 3 (.int .i64 v) (.int .u64 16) = some (.int .i64 (v / 2 ^ 16)) := by rw [← be_shr]; exact i_shrY Try.prog 3 v .u64 16 (by decide)
  have s3 : binA Try.prog .shr 3 (.int .i64 v) (.int .u64 8) = some (.int .i64 (v / 2 ^ 8)) := by rw [← be_shr]; exact i_shrY Try.prog 3 v .u64 8 (by decide)
  have c1 : callA cfg5 (evalFn Try.prog cfg5 n (d+1)) 18 st 47 [x, .sl [.int .u8 ((u8 (v / 2 ^ 24)).toNat : Int), .int .u8 ((u8 (v / 2 ^ 16)).toNat : Int), .int .u8 ((u8 (v / 2 ^ 8)).toNat : Int), .int .u8 ((u8 v).toNat : Int)] 4 .tight] = some (.sl (cellsOfBytes (bs ++ be32 v)) (bs ++ be32 v).length (.tok 18 t'), st') := c1
  simp only [simB, keep5, Nat.reduceBEq, own5, String.reduceAppend, String.reduceBEq, Bool.or_false, Bool.or_true, Bool.or_self, ↓reduceIte, Nat.reduceEqDiff, Nat.reduceAdd, simL, simN, Nat.zero_add, e0, e1, s1, s2, s3, conv3_5b, opA_lit4, lit4_b, c1]
  exact finish_Bs ha [.int .i64 v] _ rfl _ 18 t' _ _ _ (by simp only [zfk, ↓reduceIte, Nat.reduceEqDiff]; try rfl) c2
end Go.Ab

/- Rows of bytes in memory, as a statement's reading gives them. No conditions. -/
namespace Go.Ab
open Go.Proofs Go.RowKit
theorem bytesRow {w : World} {a : Option Addr} {len cap : Nat} {zs : List Int} (h : IsRow .u8 w a len cap zs) : ∃ bs : List UInt8, bs.length = len ∧ V0 (old w) w (.sl (cellsOfBytes bs) bs.length .loose) (.slice a len cap) := by
  have hl : len ≤ zs.length := by
    rcases h with ⟨_, rfl, _, _⟩ | ⟨_, _, h1, _, h2, _, _⟩ <;> omega
  refine ⟨(zs.take len).map fun z => UInt8.ofNat z.toNat, by rw [List.length_map, List.length_take]; omega, ?_⟩
  have e : AV.sl (cellsOfBytes ((zs.take len).map fun z => UInt8.ofNat z.toNat)) ((zs.take len).map fun z => UInt8.ofNat z.toNat).length .loose = .sl ((zs.take len).map (AV.int .u8)) len .loose := by
    simp only [cellsOfBytes, List.map_map, List.length_map, List.length_take]
    rw [Nat.min_eq_left hl]
    congr 1
    refine List.map_congr_left fun z hz => ?_
    have hz := List.mem_of_mem_take hz
    rcases h with ⟨_, _, _, rfl⟩ | ⟨_, _, _, _, _, _, hw⟩
    · cases hz
    · have := hw z hz
      simp [Lit.wf, IntKind.min, IntKind.max, IntKind.bits, IntKind.signed] at this
      simp only [Function.comp, UInt8.toNat_ofNat']
      congr 1
      omega
  rw [e]
  exact V0_row h
end Go.Ab

/- A number's bytes put behind others (CFG5). Conditions: a number that may be; lengths in range. -/
namespace Go.Ab
open Go.Proofs
set_option maxRecDepth 100000
set_option linter.unusedSimpArgs false

section
variable (P : Program) (t : TypeId)
theorem y_geq (x y : Int) : binA P .geq t (.int .i64 x) (.int .i64 y) = some (.bool (decide (x ≥ y))) := rfl
theorem y_leq (x y : Int) : binA P .leq t (.int .i64 x) (.int .i64 y) = some (.bool (decide (x ≤ y))) := rfl
theorem y_gtr (x y : Int) : binA P .gtr t (.int .i64 x) (.int .i64 y) = some (.bool (decide (x > y))) := rfl
theorem y_lss (x y : Int) : binA P .lss t (.int .i64 x) (.int .i64 y) = some (.bool (decide (x < y))) := rfl
theorem y_neq (x y : Int) : binA P .neq t (.int .i64 x) (.int .i64 y) = some (.bool (x != y)) := rfl
theorem y_eql (x y : Int) : binA P .eql t (.int .i64 x) (.int .i64 y) = some (.bool (x == y)) := rfl
end
theorem chkN_abs {b : Bool} {l : List Nat} (h : chkN b l = true) : (numZ b l).natAbs = val l := by
  unfold numZ
  rw [if_pos h]
  split
  · rw [Int.natAbs_neg, Int.natAbs_natCast]
  · rw [Int.natAbs_natCast]
theorem blen_leY (v k : Nat) (h : v < 2 ^ k) : blen v ≤ k := by
  unfold blen
  split
  · omega
  · rename_i h0
    have := (Nat.log2_lt h0).2 h
    omega
theorem limbs_bits {l : List Nat} (hl : Limbs l) : blen (val l) ≤ 32 * l.length := by
  refine blen_leY _ _ ?_
  have h := val_lt l hl
  have e : B ^ l.length = 2 ^ (32 * l.length) := by
    rw [Nat.pow_mul]
  rw [← e]; exact h
theorem intZ_Y (z : Int) : intZ z = .tup [.int .i64 (if isI64 z = true then z else 0), .bool (isI64 z)] := by
  unfold intZ
  cases isI64 z <;> rfl
theorem sh24Y : shOf Try.prog 25 = some (true, 2) := by kernel_rfl
theorem ldR24 (s : St) (x y : AV) : loadA Try.prog 25 s (.rptr [x, y]) = some (.agg [x, y]) := by
  simp only [loadA, partA, sh24Y]; rfl
theorem faR24_0 (s : St) (xs : List AV) : fieldAddrA Try.prog 25 s (.rptr xs) 0 = some (.rptr xs) := by
  simp only [fieldAddrA, fd24_0, esz4, List.drop_zero]
theorem faR24_1 (s : St) (x y : AV) : fieldAddrA Try.prog 25 s (.rptr [x, y]) 1 = some (.rptr [y]) := by
  simp only [fieldAddrA, fd24_1, esz22]; rfl
theorem ldRb (s : St) (b : Bool) (r : List AV) : loadA Try.prog 4 s (.rptr (.bool b :: r)) = some (.bool b) := by
  simp only [loadA, partA, sh4]; rfl
theorem ldRl (s : St) (x : AV) : loadA Try.prog 23 s (.rptr [x]) = some x := by
  simp only [loadA, partA, sh22]; rfl
theorem boxT_agg (s : St) (xs : List AV) : boxT s (.agg xs) = some (.rptr xs, s) := rfl
theorem limBs_succ (l : List Nat) (k : Nat) : limBs l (k + 1) = limBs l k ++ [limB l k] := by
  simp only [limBs, List.range_succ, List.map_append, List.map_cons, List.map_nil]
theorem limBs_len (l : List Nat) (k : Nat) : (limBs l k).length = k := by simp only [limBs, List.length_map, List.length_range]
theorem Bs.word {n d : Nat} {st : St} {p : Nat} {x : AV} {bs : List UInt8} (h : Bs st p x bs) (v : Int) (hl : bs.length + 4 ≤ 1000000000000) (D : Nat) :
    ∃ st' t', callA cfg5 (evalFn Try.prog cfg5 n (d+2)) D st 49 [x, .int .i64 v] = some (.sl (cellsOfBytes (bs ++ be32 v)) (bs ++ be32 v).length (.tok D t'), st') ∧ st' D = ⟨t', .tok 1⟩ ∧ ∀ q, q ≠ D → q ≠ p → st' q = st q :=
  h.call linWord [.int .i64 v] rfl (bs ++ be32 v) (fun _ ha => ewrd_eq n d ha v hl) D
theorem Bs.tok {st : St} {p t : Nat} {bs : List UInt8} (h : st p = ⟨t, .tok 1⟩) : Bs st p (.sl (cellsOfBytes bs) bs.length (.tok p t)) bs := .inr ⟨t, rfl, h⟩
noncomputable def nuC : Code := (Try.f46.body).getD .skip
noncomputable def nu1 : Code := seqR nuC
noncomputable def nu2 : Code := seqR nu1
noncomputable def nu3 : Code := seqR nu2
set_option maxHeartbeats 16000000 in
theorem nu3_eq (n d : Nat) {a : Arg} {bs : List UInt8} (ha : Base a bs) (b : Bool) (g : Gk) (l : List Nat) (hL : Limbs l) (hc : chkN b l = true) (hl : bs.length + 100 ≤ 1000000000000) (hn : 100 ≤ n) (K : Kont)
    (hK : ∀ env s, K .ret env s = finishP Try.prog true (a :: [encA b g l].map .tree) #[.tmp 4] env s) (env : Env) (st : St) (x : AV) (e0 : env 0 = x) (e3 : env 3 = .rptr [.bool b, encL g l]) (hB : Bs st 0 x bs) :
    den Try.prog cfg5 (evalFn Try.prog cfg5 n (d+2)) n nu3 K env st = some (.tok (cellsOfBytes (bs ++ (110 :: u8 ((blen (numZ b l).natAbs + 7) / 8 : Nat) :: (if b then 1 else 0) :: limBs l ((blen (numZ b l).natAbs + 7) / 8)))) (bs ++ (110 :: u8 ((blen (numZ b l).natAbs + 7) / 8 : Nat) :: (if b then 1 else 0) :: limBs l ((blen (numZ b l).natAbs + 7) / 8))).length 1, [[], []]) := by
  have cb := fun D s => callA_trees (cfg := cfg5) (d := D) (s := s) (f := 23) (vs := [encA b g l]) rfl (ev5 (n := n) (d := d+1) rfl (bits_eq 9223372036854775808 6187 (by decide) (isN_A b g l hL)))
  simp only [encA] at cb
  have hbl : blen (numZ b l).natAbs ≤ 384 := by
    have h1 := limbs_bits hL
    rw [chkN_abs hc]
    have h2 : l.length ≤ 12 := by
      simp only [chkN, Bool.and_eq_true, decide_eq_true_eq] at hc
      exact hc.1
    omega
  have hbl2 : blen (numZ b l).natAbs ≤ 32 * l.length := by rw [chkN_abs hc]; exact limbs_bits hL
  obtain ⟨w, hw⟩ : ∃ w, blen (numZ b l).natAbs = w := ⟨_, rfl⟩
  rw [hw] at cb hbl hbl2
  rw [hw]
  have f1 := i_add Try.prog 3 (w : Int) 7 (by omega) (by omega)
  have f2 : binA Try.prog .quo 3 (.int .i64 ((w : Int) + 7)) (.int .i64 8) = some (.int .i64 (((w + 7) / 8 : Nat) : Int)) := i_quo Try.prog 3 (w + 7) 8 (by decide) (by omega)
  obtain ⟨k, hk⟩ : ∃ k, (w + 7) / 8 = k := ⟨_, rfl⟩
  rw [hk] at f2
  rw [hk]
  have hk48 : k ≤ 48 := by omega
  have hkl : k ≤ 4 * l.length := by omega
  obtain ⟨st', t', c1, c2, c3⟩ := hB.put (n := n) (d := d+1) [110, u8 (k : Int), if b then 1 else 0] .tight rfl (by simp only [List.length_cons, List.length_nil]; omega) 56
  have c1 : callA cfg5 (evalFn Try.prog cfg5 n (d+2)) 56 st 47 [x, .sl [.int .u8 110, .int .u8 ((u8 (k : Int)).toNat : Int), .int .u8 (if b then 1 else 0)] 3 .tight] = some (.sl (cellsOfBytes (bs ++ [110, u8 (k : Int), if b then 1 else 0])) (bs ++ [110, u8 (k : Int), if b then 1 else 0]).length (.tok 56 t'), st') := by
    cases b <;> exact c1
  obtain ⟨hd, hhd⟩ : ∃ hd, bs ++ [110, u8 (k : Int), if b then 1 else 0] = hd := ⟨_, rfl⟩
  have hhl : hd.length = bs.length + 3 := by rw [← hhd, List.length_append]; rfl
  have hfin : bs ++ (110 :: u8 (k : Int) :: (if b then 1 else 0) :: limBs l k) = hd ++ limBs l k := by rw [← hhd, List.append_assoc]; rfl
  rw [hfin]
  rw [hhd] at c1
  have nuI : ∀ (i : Nat), i < k → i / 4 < l.length := fun i hi => by omega
  cases b
  all_goals
    simp only [nu3, nu2, nu1, nuC, seqR, Try.f46, Option.getD_some, simB, keep5, Nat.reduceBEq, own5, String.reduceAppend, String.reduceBEq, Bool.or_false, Bool.or_true, Bool.or_self, ↓reduceIte, Nat.reduceEqDiff, Nat.reduceAdd, simA, simL, simN, Nat.zero_add, e0, e3, ldR24, cb, f1, f2, faR24_0, ldRb, conv3_5b, opA_lit3, lit3_b]
    simp only [Bool.false_eq_true, ↓reduceIte] at c1
    simp only [simB, keep5, Nat.reduceBEq, own5, String.reduceAppend, String.reduceBEq, Bool.or_false, Bool.or_true, Bool.or_self, ↓reduceIte, Nat.reduceEqDiff, Nat.reduceAdd, simA, c1, den_loop]
    refine loop_ends (X := Nat) (fun i env s => env 57 = .int .i64 (k : Int) ∧ env 58 = .int .i64 (i : Int) ∧ env 3 = .rptr [.bool _, encL g l] ∧ i ≤ k ∧ ∃ p t, env 0 = .sl (cellsOfBytes (hd ++ limBs l i)) (hd ++ limBs l i).length (.tok p t) ∧ s p = ⟨t, .tok 1⟩) (fun i => k - i) (fun _ => (.tok (cellsOfBytes (hd ++ limBs l k)) (hd ++ limBs l k).length 1, [[], []])) ?_ n 0 _ _ (by omega) ⟨(by simp only [zfk, ↓reduceIte, Nat.reduceEqDiff]; try rfl), (by simp only [zfk, ↓reduceIte, Nat.reduceEqDiff]; try rfl), (by simp only [zfk, ↓reduceIte, Nat.reduceEqDiff, e3]; try rfl), Nat.zero_le _, 56, t', ?_, c2⟩
    rotate_left
    · have h0 : hd ++ limBs l 0 = hd := List.append_nil hd
      rw [h0]
      exact (by simp only [zfk, ↓reduceIte, Nat.reduceEqDiff]; try rfl)
    rintro rd i hrd ih env1 s1 ⟨e57, e58, e3', hik, p, t1, e0', hp1⟩
    have hBi := Bs.tok (bs := hd ++ limBs l i) hp1
    by_cases hlt : i < k
    · have q1 : (i : Int) < (k : Int) := by omega
      have hi4 := nuI i hlt
      have g1 : binA Try.prog .quo 3 (.int .i64 (i : Int)) (.int .i64 4) = some (.int .i64 ((i / 4 : Nat) : Int)) := i_quo Try.prog 3 i 4 (by decide) (by omega)
      have g2 : binA Try.prog .rem 3 (.int .i64 (i : Int)) (.int .i64 4) = some (.int .i64 ((i % 4 : Nat) : Int)) := i_rem Try.prog 3 i 4 (by decide)
      have g3 := i_mul Try.prog 3 8 ((i % 4 : Nat) : Int) (by omega) (by omega)
      have g4 := s_shr Try.prog 56 (l.getD (i / 4) 0) .i64 (8 * ((i % 4 : Nat) : Int)) (by omega) (by omega)
      rw [show (8 * ((i % 4 : Nat) : Int)).toNat = 8 * (i % 4) by omega] at g4
      have g5 := fun s => conv31_5b s (l.getD (i / 4) 0 / 2 ^ (8 * (i % 4)))
      have g6 := fun s => ia22 s g l .i64 ((i / 4 : Nat) : Int) (by omega) (by omega)
      simp only [Int.toNat_natCast] at g6
      have g7 := fun s => ld31 s l (i / 4) hi4
      have g8 := i_add Try.prog 3 (i : Int) 1 (by omega) (by omega)
      obtain ⟨s2, t2, d1, d2, d3⟩ := hBi.put (n := n) (d := d+1) [limB l i] .tight rfl (by simp only [List.length_append, limBs_len, List.length_cons, List.length_nil]; omega) 74
      have d1 : callA cfg5 (evalFn Try.prog cfg5 n (d+2)) 74 s1 47 [.sl (cellsOfBytes (hd ++ limBs l i)) (hd ++ limBs l i).length (.tok p t1), .sl [.int .u8 ((UInt8.ofNat (l.getD (i / 4) 0 / 2 ^ (8 * (i % 4)) % 256)).toNat : Int)] 1 .tight] = some (.sl (cellsOfBytes (hd ++ limBs l i ++ [limB l i])) (hd ++ limBs l i ++ [limB l i]).length (.tok 74 t2), s2) := d1
      have e4 : hd ++ limBs l i ++ [limB l i] = hd ++ limBs l (i + 1) := by rw [limBs_succ, List.append_assoc]
      rw [e4] at d1
      simp only [simB, keep5, Nat.reduceBEq, own5, String.reduceAppend, String.reduceBEq, Bool.or_false, Bool.or_true, Bool.or_self, ↓reduceIte, Nat.reduceEqDiff, Nat.reduceAdd, simA, simL, simN, Nat.zero_add, y_lss, e57, e58, e3', e0', q1, faR24_1, ldRl, g1, g2, g3, g4, g5, g6, g7, g8, opA_lit1, lit1_b, d1]
      exact ih (i + 1) _ _ (by omega) rfl ⟨(by simp only [zfk, ↓reduceIte, Nat.reduceEqDiff, e57]; try rfl), (by simp only [zfk, ↓reduceIte, Nat.reduceEqDiff]; try rfl), (by simp only [zfk, ↓reduceIte, Nat.reduceEqDiff, e3']; try rfl), by omega, 74, t2, (by simp only [zfk, ↓reduceIte, Nat.reduceEqDiff]; try rfl), d2⟩
    · have hie : i = k := by omega
      subst hie
      have q1 : ¬ (i : Int) < (i : Int) := by omega
      simp only [simB, keep5, Nat.reduceBEq, own5, String.reduceAppend, String.reduceBEq, Bool.or_false, Bool.or_true, Bool.or_self, ↓reduceIte, Nat.reduceEqDiff, Nat.reduceAdd, simA, simL, simN, Nat.zero_add, y_lss, e57, e58, e0', q1, hK]
      exact finish_Bs ha [_] true rfl 4 p t1 _ _ _ (by simp only [zfk, ↓reduceIte, Nat.reduceEqDiff]; try rfl) hp1
set_option maxHeartbeats 16000000 in
theorem enum_eq (n d : Nat) {a : Arg} {bs : List UInt8} (ha : Base a bs) (b : Bool) (g : Gk) (l : List Nat) (hL : Limbs l) (hcc : chkN b l = true) (hl : bs.length + 100 ≤ 1000000000000) (hn : 100 ≤ n) :
    evalFn Try.prog cfg5 n (d+3) 46 [a, .tree (encA b g l)] = some (.tok (cellsOfBytes (bs ++ numB b l)) (bs ++ numB b l).length 1, [[], []]) := by
  rw [evalFn_go _ Try.func46 (by unfold Try.f46; rfl) (by unfold Try.f46; decide) (Nat.le_of_ble_eq_true (by unfold Try.f46; rfl)) (by kernel_rfl)]
  have hB := ha.start [.tree (encA b g l)]
  have e1 : env0 [a, .tree (encA b g l)] 1 = .agg [.bool b, encL g l] := rfl
  generalize env0 [a, .tree (encA b g l)] = env at hB e1
  generalize st0 [a, .tree (encA b g l)] = st at hB
  generalize e0 : env 0 = x at hB
  have ci := fun D s => callA_trees (cfg := cfg5) (d := D) (s := s) (f := 24) (vs := [encA b g l]) rfl (ev5 (n := n) (d := d+1) rfl (int_eq 9223372036854775808 6187 (by decide) (isN_A b g l hL)))
  rw [intZ_Y] at ci
  simp only [encA] at ci
  obtain ⟨z, hz⟩ : ∃ z, numZ b l = z := ⟨_, rfl⟩
  rw [hz] at ci
  have hnB : numB b l = if 0 ≤ z ∧ z ≤ 255 then [97, u8 z] else if -2147483648 ≤ z ∧ z ≤ 2147483647 then 98 :: be32 z else 110 :: u8 ((blen z.natAbs + 7) / 8 : Nat) :: (if b then 1 else 0) :: limBs l ((blen z.natAbs + 7) / 8) := by
    rw [numB, hz]
  by_cases h1 : 0 ≤ z ∧ z ≤ 255
  · have hi : isI64 z = true := by unfold isI64; rw [Bool.and_eq_true, decide_eq_true_eq, decide_eq_true_eq]; omega
    rw [hi] at ci
    rw [hnB, if_pos h1]
    have q1 : z ≥ 0 := h1.1
    have q2 : z ≤ 255 := h1.2
    obtain ⟨st', t', c1, c2, c3⟩ := hB.put (n := n) (d := d+1) [97, u8 z] .tight rfl (by simp only [List.length_cons, List.length_nil]; omega) 29
    have c1 : callA cfg5 (evalFn Try.prog cfg5 n (d+2)) 29 st 47 [x, .sl [.int .u8 97, .int .u8 ((u8 z).toNat : Int)] 2 .tight] = some (.sl (cellsOfBytes (bs ++ [97, u8 z])) (bs ++ [97, u8 z]).length (.tok 29 t'), st') := c1
    simp only [simB, keep5, Nat.reduceBEq, own5, String.reduceAppend, String.reduceBEq, Bool.or_false, Bool.or_true, Bool.or_self, ↓reduceIte, Nat.reduceEqDiff, Nat.reduceAdd, simA, simL, simN, Nat.zero_add, e0, e1, boxT_agg, ldR24, ci, zdu, y_geq, y_leq, q1, q2, conv3_5b, opA_lit2, lit2_b, c1]
    exact finish_Bs ha [encA b g l] _ rfl _ 29 t' _ _ _ (by simp only [zfk, ↓reduceIte, Nat.reduceEqDiff]; try rfl) c2
  by_cases h2 : -2147483648 ≤ z ∧ z ≤ 2147483647
  · have hi : isI64 z = true := by unfold isI64; rw [Bool.and_eq_true, decide_eq_true_eq, decide_eq_true_eq]; omega
    rw [hi] at ci
    rw [hnB, if_neg h1, if_pos h2]
    have q3 : z ≥ -2147483648 := h2.1
    have q4 : z ≤ 2147483647 := h2.2
    obtain ⟨st', t', c1, c2, c3⟩ := hB.put (n := n) (d := d+1) [98] .tight rfl (by simp only [List.length_cons, List.length_nil]; omega) 42
    have c1 : callA cfg5 (evalFn Try.prog cfg5 n (d+2)) 42 st 47 [x, .sl [.int .u8 98] 1 .tight] = some (.sl (cellsOfBytes (bs ++ [98])) (bs ++ [98]).length (.tok 42 t'), st') := c1
    obtain ⟨st2, t2, d1, d2, d3⟩ := (Bs.tok (bs := bs ++ [98]) c2).word (n := n) (d := d) z (by simp only [List.length_append, List.length_cons, List.length_nil]; omega) 44
    have e3 : bs ++ [98] ++ be32 z = bs ++ 98 :: be32 z := by rw [List.append_assoc]; rfl
    rw [e3] at d1
    by_cases q1 : z ≥ 0
    · have q2 : ¬ z ≤ 255 := fun h => h1 ⟨q1, h⟩
      simp only [simB, keep5, Nat.reduceBEq, own5, String.reduceAppend, String.reduceBEq, Bool.or_false, Bool.or_true, Bool.or_self, ↓reduceIte, Nat.reduceEqDiff, Nat.reduceAdd, simA, simL, simN, Nat.zero_add, e0, e1, boxT_agg, ldR24, ci, zdu, y_geq, y_leq, q1, q2, q3, q4, conv3_5b, opA_lit1, lit1_b, c1, d1]
      exact finish_Bs ha [encA b g l] _ rfl _ 44 t2 _ _ _ (by simp only [zfk, ↓reduceIte, Nat.reduceEqDiff]; try rfl) d2
    · simp only [simB, keep5, Nat.reduceBEq, own5, String.reduceAppend, String.reduceBEq, Bool.or_false, Bool.or_true, Bool.or_self, ↓reduceIte, Nat.reduceEqDiff, Nat.reduceAdd, simA, simL, simN, Nat.zero_add, e0, e1, boxT_agg, ldR24, ci, zdu, y_geq, y_leq, q1, q3, q4, conv3_5b, opA_lit1, lit1_b, c1, d1]
      exact finish_Bs ha [encA b g l] _ rfl _ 44 t2 _ _ _ (by simp only [zfk, ↓reduceIte, Nat.reduceEqDiff]; try rfl) d2
  have hc : nuC = .seq (seqL nuC) (.seq (seqL nu1) (.seq (seqL nu2) nu3)) := rfl
  rw [hnB, if_neg h1, if_neg h2, ← hz]
  show den _ _ _ _ nuC _ _ _ = _
  rw [hc]
  by_cases hi : isI64 z = true
  · rw [hi] at ci
    unfold isI64 at hi
    rw [Bool.and_eq_true, decide_eq_true_eq, decide_eq_true_eq] at hi
    by_cases q1 : z ≥ 0
    · have q2 : ¬ z ≤ 255 := by omega
      have q3 : z ≥ -2147483648 := by omega
      have q4 : ¬ z ≤ 2147483647 := by omega
      simp only [seqL, nu2, nu1, nuC, seqR, Try.f46, Option.getD_some, simB, keep5, Nat.reduceBEq, own5, String.reduceAppend, String.reduceBEq, Bool.or_false, Bool.or_true, Bool.or_self, ↓reduceIte, Nat.reduceEqDiff, Nat.reduceAdd, simA, simL, simN, Nat.zero_add, e0, e1, boxT_agg, ldR24, ci, zdu, y_geq, y_leq, q1, q2, q3, q4]
      exact nu3_eq n d ha b g l hL hcc hl hn _ (fun _ _ => rfl) _ _ x (by simp only [zfk, ↓reduceIte, Nat.reduceEqDiff, e0]; try rfl) (by simp only [zfk, ↓reduceIte, Nat.reduceEqDiff]; try rfl) hB
    · have q3 : ¬ z ≥ -2147483648 := by omega
      simp only [seqL, nu2, nu1, nuC, seqR, Try.f46, Option.getD_some, simB, keep5, Nat.reduceBEq, own5, String.reduceAppend, String.reduceBEq, Bool.or_false, Bool.or_true, Bool.or_self, ↓reduceIte, Nat.reduceEqDiff, Nat.reduceAdd, simA, simL, simN, Nat.zero_add, e0, e1, boxT_agg, ldR24, ci, zdu, y_geq, y_leq, q1, q3]
      exact nu3_eq n d ha b g l hL hcc hl hn _ (fun _ _ => rfl) _ _ x (by simp only [zfk, ↓reduceIte, Nat.reduceEqDiff, e0]; try rfl) (by simp only [zfk, ↓reduceIte, Nat.reduceEqDiff]; try rfl) hB
  · have hi : isI64 z = false := by simpa using hi
    rw [hi] at ci
    simp only [seqL, nu2, nu1, nuC, seqR, Try.f46, Option.getD_some, simB, keep5, Nat.reduceBEq, own5, String.reduceAppend, String.reduceBEq, Bool.or_false, Bool.or_true, Bool.or_self, ↓reduceIte, Nat.reduceEqDiff, Nat.reduceAdd, simA, simL, simN, Nat.zero_add, e0, e1, boxT_agg, ldR24, ci, zdu, y_geq, y_leq]
    exact nu3_eq n d ha b g l hL hcc hl hn _ (fun _ _ => rfl) _ _ x (by simp only [zfk, ↓reduceIte, Nat.reduceEqDiff, e0]; try rfl) (by simp only [zfk, ↓reduceIte, Nat.reduceEqDiff]; try rfl) hB
end Go.Ab

/- Lists by their heads and their end; short steps of the walk of what writes terms (CFG5). No conditions. -/
namespace Go.Ab
open Go.Proofs
set_option maxRecDepth 100000
set_option linter.unusedSimpArgs false

def spineT : Nat → T → List T × T
  | 0, t => ([], t)
  | f + 1, .mk k b lg l s n kg ks => if k = 4 then (match ks with
    | [h, u] => (h :: (spineT f u).1, (spineT f u).2)
    | _ => ([], .mk k b lg l s n kg ks)) else ([], .mk k b lg l s n kg ks)
theorem spine_no (f : Nat) (t : T) (h : kindT t ≠ 4) : spineT f t = ([], t) := by
  cases f with
  | zero => rfl
  | succ f =>
    obtain ⟨k, b, lg, l, s, n, kg, ks⟩ := t
    simp only [kindT] at h
    simp only [spineT, if_neg h]
theorem spine_cons (f : Nat) (b : Bool) (lg : Gk) (l : List Nat) (s : List UInt8) (n : Int) (kg : Gk) (x u : T) : spineT (f + 1) (.mk 4 b lg l s n kg [x, u]) = (x :: (spineT f u).1, (spineT f u).2) := by
  simp only [spineT, if_true]
theorem good_pair {k : Int} {b : Bool} {lg : Gk} {l : List Nat} {s : List UInt8} {n : Int} {kg : Gk} {ks : List T} (h : goodT (.mk k b lg l s n kg ks)) (hk : k = 4) : ∃ x u, ks = [x, u] := by
  simp only [goodT] at h
  exact own_kids h.2.1 hk
def putAll (ks : List T) : List UInt8 := ks.flatMap putB
theorem putAll_app (a b : List T) : putAll (a ++ b) = putAll a ++ putAll b := List.flatMap_append
theorem putAll_one (t : T) : putAll [t] = putB t := by simp [putAll]
theorem putK_all : ∀ ks : List T, putK ks = putAll ks
  | [] => rfl
  | t :: r => by
    have := putK_all r
    simp only [putK, this, putAll, List.flatMap_cons, putB]
theorem putA_no (t : T) (h : kindT t ≠ 4) : putA t = (putB t, putB t, 0) := by
  obtain ⟨k, b, lg, l, s, n, kg, ks⟩ := t
  simp only [kindT] at h
  simp only [putB, putA, if_neg h]
theorem spine_ok : ∀ (f : Nat) (t : T), goodT t → nodT t ≤ f → kindT (spineT f t).2 ≠ 4 ∧ goodT (spineT f t).2 ∧ goodK (spineT f t).1 ∧ nodK (spineT f t).1 + nodT (spineT f t).2 + (spineT f t).1.length = nodT t ∧ (putA t).2.1 = putAll (spineT f t).1 ++ putB (spineT f t).2 ∧ (putA t).2.2 = (spineT f t).1.length
  | 0, t, _, h => by have := nod_pos t; omega
  | f + 1, .mk k b lg l s n kg ks, hg, h => by
    by_cases hk : k = 4
    · subst hk
      obtain ⟨x, u, rfl⟩ := good_pair hg rfl
      simp only [goodT, goodK, and_true] at hg
      simp only [nodT, nodK] at h ⊢
      obtain ⟨h1, h2, h3, h4, h5, h6⟩ := spine_ok f u hg.2.2.2 (by omega)
      rw [spine_cons]
      dsimp only
      refine ⟨h1, h2, ?_, ?_, ?_, ?_⟩
      · simp only [goodK]; exact ⟨hg.2.2.1, h3⟩
      · simp only [nodK, List.length_cons]; omega
      · simp only [putA, if_true, putP, putQ, h5]
        simp only [putAll, List.flatMap_cons, putB, List.append_assoc]
      · simp only [putA, if_true, putP, putN, h6, List.length_cons]
    · rw [spine_no _ _ (by simpa [kindT] using hk)]
      rw [putA_no _ (by simpa [kindT] using hk)]
      dsimp only
      refine ⟨by simpa [kindT] using hk, hg, by simp [goodK], by simp [nodK], ?_, rfl⟩
      simp [putAll]
theorem putB_list (t : T) (h : kindT t = 4) : putB t = 108 :: (be32 (putA t).2.2 ++ (putA t).2.1) := by
  obtain ⟨k, b, lg, l, s, n, kg, ks⟩ := t
  simp only [kindT] at h
  simp only [putB, putA, if_pos h]
theorem goodK_memY : ∀ {ks : List T} {t : T}, goodK ks → t ∈ ks → goodT t
  | a :: r, t, h, ht => by
    simp only [goodK] at h
    rcases List.mem_cons.1 ht with rfl | ht
    · exact h.1
    · exact goodK_memY h.2 ht
theorem nodK_memY : ∀ {ks : List T} {t : T}, t ∈ ks → nodT t ≤ nodK ks
  | a :: r, t, ht => by
    simp only [nodK]
    rcases List.mem_cons.1 ht with rfl | ht
    · omega
    · have := nodK_memY ht; omega
theorem putAll_len : ∀ {ks : List T} {t : T}, t ∈ ks → (putB t).length ≤ (putAll ks).length
  | a :: r, t, ht => by
    simp only [putAll, List.flatMap_cons, List.length_append]
    rcases List.mem_cons.1 ht with rfl | ht
    · omega
    · have := putAll_len ht; simp only [putAll] at this; omega
theorem putAll_take (ks : List T) (i : Nat) : (putAll (ks.take i)).length ≤ (putAll ks).length := by
  have : putAll ks = putAll (ks.take i) ++ putAll (ks.drop i) := by rw [← putAll_app, List.take_append_drop]
  rw [this, List.length_append]; omega
section
variable (s : St) (a b c d e f : AV)
theorem faRT_0 : fieldAddrA Try.prog 28 s (.rptr [a, b, c, d, e, f]) 0 = some (.rptr [a, b, c, d, e, f]) := by
  have h : fieldOf Try.prog 28 0 = some (3, 0) := by kernel_rfl
  have h2 : esz Try.prog 3 = some 1 := by kernel_rfl
  simp only [fieldAddrA, h, h2]; rfl
theorem faRT_1 : fieldAddrA Try.prog 28 s (.rptr [a, b, c, d, e, f]) 1 = some (.rptr [b, c, d, e, f]) := by
  have h : fieldOf Try.prog 28 1 = some (25, 1) := by kernel_rfl
  simp only [fieldAddrA, h, esz24]; rfl
theorem faRT_2 : fieldAddrA Try.prog 28 s (.rptr [a, b, c, d, e, f]) 2 = some (.rptr [d, e, f]) := by
  have h : fieldOf Try.prog 28 2 = some (9, 3) := by kernel_rfl
  have h2 : esz Try.prog 9 = some 1 := by kernel_rfl
  simp only [fieldAddrA, h, h2]; rfl
theorem faRT_4 : fieldAddrA Try.prog 28 s (.rptr [a, b, c, d, e, f]) 4 = some (.rptr [f]) := by
  have h : fieldOf Try.prog 28 4 = some (26, 5) := by kernel_rfl
  have h2 : esz Try.prog 26 = some 1 := by kernel_rfl
  simp only [fieldAddrA, h, h2]; rfl
theorem ldRT_int (x : Int) (r : List AV) : loadA Try.prog 3 s (.rptr (.int .i64 x :: r)) = some (.int .i64 x) := by
  have h : shOf Try.prog 3 = some (false, 1) := by kernel_rfl
  simp only [loadA, partA, h]; rfl
theorem ldRT_str (x : List UInt8) (r : List AV) : loadA Try.prog 9 s (.rptr (.str x :: r)) = some (.str x) := by
  simp only [loadA, partA, shTs]; rfl
theorem ldRT_num (x y : AV) (r : List AV) : loadA Try.prog 25 s (.rptr (x :: y :: r)) = some (.agg [x, y]) := by
  simp only [loadA, partA, sh24Y]
  rw [if_pos (by simp only [List.length_cons]; omega)]; rfl
theorem ldRT_k (x : AV) (r : List AV) : loadA Try.prog 26 s (.rptr (x :: r)) = some x := by
  have h : shOf Try.prog 26 = some (false, 1) := by kernel_rfl
  simp only [loadA, partA, h]; rfl
theorem ldRT : loadA Try.prog 28 s (.rptr [a, b, c, d, e, f]) = some (.agg [a, b, c, d, e, f]) := by
  simp only [loadA, partA, shT]; rfl
end
theorem convSB (s : St) (b : List UInt8) (h : b.length ≤ 140737488355328) : convA Try.prog 9 22 s (.str b) = some (.sl (cellsOfBytes b) b.length .loose) := by
  simp only [convA, tk9, tkB, tkU8, if_pos h]
def gotoY (x : Option Out) (v : AV) : Option Out := if isTree v = true then x else none
theorem den_gotoY {P : Program} {cfg : Cfg} {call : FuncId → List Arg → Option Out} {n : Nat} (t : Nat) (ht : t < 1048576) (K : Kont) (env : Env) (s : St) : den P cfg call n (.goto t) K env s = gotoY (K .normal env s) (env t) := by
  simp only [den, gotoOk, if_pos ht, gotoY]
theorem gotoY_r (x : Option Out) (xs : List AV) : gotoY x (.rptr xs) = x := rfl
theorem gotoY_s (x : Option Out) (b : List UInt8) : gotoY x (.str b) = x := rfl
theorem gotoY_i (x : Option Out) (k : IntKind) (z : Int) : gotoY x (.int k z) = x := rfl
theorem tok_call {call : FuncId → List Arg → Option Out} {f : FuncId} {p t : Nat} {bs : List UInt8} (hl : cfg5.lin f 0 = true) (vs : List AV) (ht : vs.all isTree = true) (bs' : List UInt8)
    (hc : call f (.tok (cellsOfBytes bs) bs.length 1 :: vs.map .tree) = some (.tok (cellsOfBytes bs') bs'.length 1, [] :: vs.map fun _ => [])) (D : Nat) (st : St) (hp : st p = ⟨t, .tok 1⟩) :
    callA cfg5 call D st f (.sl (cellsOfBytes bs) bs.length (.tok p t) :: vs) = some (.sl (cellsOfBytes bs') bs'.length (.tok D (((upd st p ⟨t, .dead⟩) D).t + 1)), upd (upd st p ⟨t, .dead⟩) D ⟨((upd st p ⟨t, .dead⟩) D).t + 1, .tok 1⟩) := by
  have ha : argA cfg5 f st 0 (.sl (cellsOfBytes bs) bs.length (.tok p t)) = some (.tok (cellsOfBytes bs) bs.length 1) := by
    simp only [argA, hl, if_true, hp]
    rw [if_pos ⟨trivial, by rw [cB_len, Nat.mul_one]⟩]
  have hgl : givesL (.sl (cellsOfBytes bs) bs.length (.tok p t) :: vs) (.tok (cellsOfBytes bs) bs.length 1 :: vs.map .tree) = [p] := by simp only [givesL, givesOf, givesL_trees]
  have hll : lendsL (.sl (cellsOfBytes bs) bs.length (.tok p t) :: vs) (.tok (cellsOfBytes bs) bs.length 1 :: vs.map .tree) = [] := by simp only [lendsL, lendsOf, lendsL_trees vs ht]
  simp only [callA, argsA, ha, argsA_trees f st vs 1 ht, Option.bind_some, Option.map_some, hgl, hll, List.nodup_cons, List.nodup_nil, List.not_mem_nil, not_false_eq_true, false_implies, implies_true, and_self, if_true, hc, List.foldl_nil, ite_self, backA, givesOf, backA_trees, hp, resA]
end Go.Ab

/- A term's bytes put behind others (CFG5). Conditions: a term all of whose parts may be; lengths in range. -/
namespace Go.Ab
open Go.Proofs
set_option maxRecDepth 100000
set_option linter.unusedSimpArgs false

def Term1 (n D : Nat) (t : T) : Prop := ∀ (a : Arg) (bs : List UInt8), Base a bs → bs.length + (putB t).length + 200 ≤ 1000000000000 →
  evalFn Try.prog cfg5 n D 28 [a, .tree (encT t)] = some (.tok (cellsOfBytes (bs ++ putB t)) (bs ++ putB t).length 1, [[], []])
def List1 (n D : Nat) (t : T) : Prop := ∀ (a : Arg) (bs : List UInt8), Base a bs → bs.length + (putB t).length + 200 ≤ 1000000000000 →
  evalFn Try.prog cfg5 n D 48 [a, .tree (encT t)] = some (.tok (cellsOfBytes (bs ++ putB t)) (bs ++ putB t).length 1, [[], []])
theorem own_num {b : Bool} {lg : Gk} {l : List Nat} {s : List UInt8} {n : Int} {kg : Gk} {ks : List T} (h : ownT (.mk 1 b lg l s n kg ks) = true) : chkN b l = true := by
  simp only [ownT, ↓reduceIte, Bool.and_eq_true] at h
  exact h.2.1.1.1
theorem own_str {k : Int} {b : Bool} {lg : Gk} {l : List Nat} {s : List UInt8} {n : Int} {kg : Gk} {ks : List T} (h : ownT (.mk k b lg l s n kg ks) = true) : s.length ≤ 400 := by
  simp only [ownT, Bool.and_eq_true] at h
  have h2 := h.2.1.1.2
  split at h2
  · simp only [nameB, Bool.and_eq_true, decide_eq_true_eq] at h2; omega
  · split at h2
    · simpa using h2
    · have : s = [] := by simpa using h2
      rw [this]; exact Nat.zero_le _
theorem own_kind {k : Int} {b : Bool} {lg : Gk} {l : List Nat} {s : List UInt8} {n : Int} {kg : Gk} {ks : List T} (h : ownT (.mk k b lg l s n kg ks) = true) : k = 1 ∨ k = 2 ∨ k = 3 ∨ k = 4 ∨ k = 5 ∨ k = 6 := by
  simp only [ownT, Bool.and_eq_true, decide_eq_true_eq] at h
  have := h.1
  omega
theorem Bs.term {n D : Nat} {t : T} (H : Term1 n D t) {st : St} {p : Nat} {x : AV} {bs : List UInt8} (h : Bs st p x bs) (hl : bs.length + (putB t).length + 200 ≤ 1000000000000) (dst : Nat) :
    ∃ st' t', callA cfg5 (evalFn Try.prog cfg5 n D) dst st 28 [x, encT t] = some (.sl (cellsOfBytes (bs ++ putB t)) (bs ++ putB t).length (.tok dst t'), st') ∧ st' dst = ⟨t', .tok 1⟩ ∧ ∀ q, q ≠ dst → q ≠ p → st' q = st q :=
  h.call linTerm1 [encT t] rfl (bs ++ putB t) (fun a ha => H a bs ha hl) dst
theorem tok_term {n D : Nat} {t : T} (H : Term1 n D t) {p i : Nat} {bs : List UInt8} (hl : bs.length + (putB t).length + 200 ≤ 1000000000000) (dst : Nat) (st : St) (hp : st p = ⟨i, .tok 1⟩) :
    callA cfg5 (evalFn Try.prog cfg5 n D) dst st 28 [.sl (cellsOfBytes bs) bs.length (.tok p i), encT t] = some (.sl (cellsOfBytes (bs ++ putB t)) (bs ++ putB t).length (.tok dst (((upd st p ⟨i, .dead⟩) dst).t + 1)), upd (upd st p ⟨i, .dead⟩) dst ⟨((upd st p ⟨i, .dead⟩) dst).t + 1, .tok 1⟩) :=
  tok_call linTerm1 [encT t] rfl (bs ++ putB t) (H _ bs (.inr rfl) hl) dst st hp
set_option maxHeartbeats 16000000 in
theorem term1_1 (n D : Nat) (hn : 100 ≤ n) (b : Bool) (lg : Gk) (l : List Nat) (s : List UInt8) (m : Int) (kg : Gk) (ks : List T) (hg : goodT (.mk 1 b lg l s m kg ks)) : Term1 n (D+4) (.mk 1 b lg l s m kg ks) := by
  intro a bs ha hl
  simp only [goodT] at hg
  have hc := own_num hg.2.1
  have hp : putB (.mk 1 b lg l s m kg ks) = numB b l := rfl
  rw [hp] at hl ⊢
  rw [evalFn_goP _ Try.func28 (by unfold Try.f28; rfl) (by unfold Try.f28; decide) (Nat.le_of_ble_eq_true (by unfold Try.f28; rfl)) (by kernel_rfl)]
  have hB := ha.start [.tree (encT (.mk 1 b lg l s m kg ks))]
  have e1 : env0 [a, .tree (encT (.mk 1 b lg l s m kg ks))] 1 = encT (.mk 1 b lg l s m kg ks) := rfl
  generalize env0 [a, .tree (encT (.mk 1 b lg l s m kg ks))] = env at hB e1
  generalize st0 [a, .tree (encT (.mk 1 b lg l s m kg ks))] = st at hB
  generalize e0 : env 0 = x at hB
  obtain ⟨st', t', c1, c2, c3⟩ := hB.call (f := 46) (call := evalFn Try.prog cfg5 n (D+3)) linNumber [encA b lg l] rfl (bs ++ numB b l) (fun a ha => enum_eq n D ha b lg l hg.1 hc (by omega) hn) 14
  simp only [encA] at c1
  simp only [encT, cellsT] at e1
  have b1 : ((1 : Int) == 1) = true := rfl
  simp only [simP, simB, keep5, Nat.reduceBEq, own5, String.reduceAppend, String.reduceBEq, Bool.or_false, Bool.or_true, Bool.or_self, ↓reduceIte, Nat.reduceEqDiff, Nat.reduceAdd, simA, simL, simN, Nat.zero_add, e0, e1, boxT_agg, faRT_0, faRT_1, ldRT_int, ldRT_num, y_eql, b1, c1]
  exact finish_Bs ha [_] _ rfl _ 14 t' _ _ _ (by simp only [zfk, ↓reduceIte, Nat.reduceEqDiff]; try rfl) c2
theorem putB_2 (b : Bool) (lg : Gk) (l : List Nat) (s : List UInt8) (m : Int) (kg : Gk) (ks : List T) : putB (.mk 2 b lg l s m kg ks) = 119 :: u8 s.length :: s := rfl
theorem putB_3 (b : Bool) (lg : Gk) (l : List Nat) (s : List UInt8) (m : Int) (kg : Gk) (ks : List T) : putB (.mk 3 b lg l s m kg ks) = [106] := rfl
theorem putB_5 (b : Bool) (lg : Gk) (l : List Nat) (s : List UInt8) (m : Int) (kg : Gk) (ks : List T) : putB (.mk 5 b lg l s m kg ks) = 104 :: u8 ks.length :: putAll ks := by rw [← putK_all]; rfl
theorem putB_6 (b : Bool) (lg : Gk) (l : List Nat) (s : List UInt8) (m : Int) (kg : Gk) (ks : List T) : putB (.mk 6 b lg l s m kg ks) = 109 :: (be32 s.length ++ s) := rfl
theorem tok_put {n d p i : Nat} {bs : List UInt8} (b : List UInt8) (g : Grip) (hg : isTree (.sl (cellsOfBytes b) b.length g) = true) (hl : bs.length + b.length ≤ 1000000000000) (dst : Nat) (st : St) (hp : st p = ⟨i, .tok 1⟩) :
    callA cfg5 (evalFn Try.prog cfg5 n (d+1)) dst st 47 [.sl (cellsOfBytes bs) bs.length (.tok p i), .sl (cellsOfBytes b) b.length g] = some (.sl (cellsOfBytes (bs ++ b)) (bs ++ b).length (.tok dst (((upd st p ⟨i, .dead⟩) dst).t + 1)), upd (upd st p ⟨i, .dead⟩) dst ⟨((upd st p ⟨i, .dead⟩) dst).t + 1, .tok 1⟩) :=
  tok_call linPut [.sl (cellsOfBytes b) b.length g] (by simp only [List.all_cons, hg, List.all_nil, Bool.and_self]) (bs ++ b) (put_eq n d (.inr rfl) b g (by cases g <;> first | rfl | cases hg) hl) dst st hp
set_option maxHeartbeats 16000000 in
theorem term1_2 (n D : Nat) (b : Bool) (lg : Gk) (l : List Nat) (s : List UInt8) (m : Int) (kg : Gk) (ks : List T) (hg : goodT (.mk 2 b lg l s m kg ks)) : Term1 n (D+4) (.mk 2 b lg l s m kg ks) := by
  intro a bs ha hl
  simp only [goodT] at hg
  have hs := own_str hg.2.1
  rw [putB_2] at hl ⊢
  simp only [List.length_cons] at hl
  rw [evalFn_goP _ Try.func28 (by unfold Try.f28; rfl) (by unfold Try.f28; decide) (Nat.le_of_ble_eq_true (by unfold Try.f28; rfl)) (by kernel_rfl)]
  have hB := ha.start [.tree (encT (.mk 2 b lg l s m kg ks))]
  have e1 : env0 [a, .tree (encT (.mk 2 b lg l s m kg ks))] 1 = encT (.mk 2 b lg l s m kg ks) := rfl
  generalize env0 [a, .tree (encT (.mk 2 b lg l s m kg ks))] = env at hB e1
  generalize st0 [a, .tree (encT (.mk 2 b lg l s m kg ks))] = st at hB
  generalize e0 : env 0 = x at hB
  obtain ⟨st', t', c1, c2, c3⟩ := hB.put (n := n) (d := D+2) [119, u8 (s.length : Int)] .tight rfl (by simp only [List.length_cons, List.length_nil]; omega) 23
  have c1 : callA cfg5 (evalFn Try.prog cfg5 n (D+3)) 23 st 47 [x, .sl [.int .u8 119, .int .u8 ((u8 (s.length : Int)).toNat : Int)] 2 .tight] = some (.sl (cellsOfBytes (bs ++ [119, u8 (s.length : Int)])) (bs ++ [119, u8 (s.length : Int)]).length (.tok 23 t'), st') := c1
  have e2 : bs ++ [119, u8 (s.length : Int)] ++ s = bs ++ 119 :: u8 (s.length : Int) :: s := by rw [List.append_assoc]; rfl
  have d1 := tok_put (n := n) (d := D+2) (bs := bs ++ [119, u8 (s.length : Int)]) s .loose rfl (by simp only [List.length_append, List.length_cons, List.length_nil]; omega) 27 st' c2
  rw [e2] at d1
  simp only [encT, cellsT] at e1
  have b1 : ((2 : Int) == 1) = false := rfl
  have b2 : ((2 : Int) == 2) = true := rfl
  have cv := fun st => convSB st s (by omega)
  simp only [simP, simB, keep5, Nat.reduceBEq, own5, String.reduceAppend, String.reduceBEq, Bool.or_false, Bool.or_true, Bool.or_self, ↓reduceIte, Nat.reduceEqDiff, Nat.reduceAdd, simA, simL, simN, Nat.zero_add, zex, List.toList_toArray, len9, ix9, zey, zez, zfa, zfb, zfc, e0, e1, boxT_agg, faRT_0, faRT_2, ldRT_int, ldRT_str, y_eql, b1, b2]
  rw [prune_L (c := .seq (.goto 18) (.seq (.goto 18) (.seq (.goto 19) (.seq (.goto 20) (.seq (.goto 24) (.seq (.goto 24) (.seq (.goto 25) .skip))))))) (by rfl) (by rfl)]
  simp only [simB, keep5, Nat.reduceBEq, own5, String.reduceAppend, String.reduceBEq, Bool.or_false, Bool.or_true, Bool.or_self, ↓reduceIte, Nat.reduceEqDiff, Nat.reduceAdd, simA, simL, simN, Nat.zero_add, zex, List.toList_toArray, len9, ix9, zey, zez, zfa, zfb, zfc, e0, e1, boxT_agg, faRT_0, faRT_2, ldRT_int, ldRT_str, conv3_5b, opA_lit2, lit2_b, c1, cv, d1, den_gotoY 18 (by decide), den_gotoY 19 (by decide), den_gotoY 20 (by decide), den_gotoY 24 (by decide), den_gotoY 25 (by decide), gotoY_r, gotoY_s, gotoY_i]
  exact finish_Bs ha [_] _ rfl _ 27 _ _ _ _ (by simp only [zfk, ↓reduceIte, Nat.reduceEqDiff]; try rfl) (by simp only [zfk, ↓reduceIte, Nat.reduceEqDiff]; try rfl)
set_option maxHeartbeats 16000000 in
theorem term1_3 (n D : Nat) (b : Bool) (lg : Gk) (l : List Nat) (s : List UInt8) (m : Int) (kg : Gk) (ks : List T) : Term1 n (D+4) (.mk 3 b lg l s m kg ks) := by
  intro a bs ha hl
  rw [putB_3] at hl ⊢
  simp only [List.length_cons, List.length_nil] at hl
  rw [evalFn_goP _ Try.func28 (by unfold Try.f28; rfl) (by unfold Try.f28; decide) (Nat.le_of_ble_eq_true (by unfold Try.f28; rfl)) (by kernel_rfl)]
  have hB := ha.start [.tree (encT (.mk 3 b lg l s m kg ks))]
  have e1 : env0 [a, .tree (encT (.mk 3 b lg l s m kg ks))] 1 = encT (.mk 3 b lg l s m kg ks) := rfl
  generalize env0 [a, .tree (encT (.mk 3 b lg l s m kg ks))] = env at hB e1
  generalize st0 [a, .tree (encT (.mk 3 b lg l s m kg ks))] = st at hB
  generalize e0 : env 0 = x at hB
  obtain ⟨st', t', c1, c2, c3⟩ := hB.put (n := n) (d := D+2) [106] .tight rfl (by simp only [List.length_cons, List.length_nil]; omega) 32
  have c1 : callA cfg5 (evalFn Try.prog cfg5 n (D+3)) 32 st 47 [x, .sl [.int .u8 106] 1 .tight] = some (.sl (cellsOfBytes (bs ++ [106])) (bs ++ [106]).length (.tok 32 t'), st') := c1
  simp only [encT, cellsT] at e1
  have b1 : ((3 : Int) == 1) = false := rfl
  have b2 : ((3 : Int) == 2) = false := rfl
  have b3 : ((3 : Int) == 3) = true := rfl
  simp only [simP, simB, keep5, Nat.reduceBEq, own5, String.reduceAppend, String.reduceBEq, Bool.or_false, Bool.or_true, Bool.or_self, ↓reduceIte, Nat.reduceEqDiff, Nat.reduceAdd, simA, simL, simN, Nat.zero_add, e0, e1, boxT_agg, faRT_0, ldRT_int, y_eql, b1, b2, b3, opA_lit1, lit1_b, c1]
  exact finish_Bs ha [_] _ rfl _ 32 t' _ _ _ (by simp only [zfk, ↓reduceIte, Nat.reduceEqDiff]; try rfl) c2
set_option maxHeartbeats 16000000 in
theorem term1_4 (n D : Nat) (b : Bool) (lg : Gk) (l : List Nat) (s : List UInt8) (m : Int) (kg : Gk) (ks : List T) (H : List1 n D (.mk 4 b lg l s m kg ks)) : Term1 n (D+1) (.mk 4 b lg l s m kg ks) := by
  intro a bs ha hl
  obtain ⟨w, hw⟩ : ∃ w, putB (.mk 4 b lg l s m kg ks) = w := ⟨_, rfl⟩
  have H2 := fun a ha => H a bs ha hl
  rw [hw] at hl H2 ⊢
  rw [evalFn_goP _ Try.func28 (by unfold Try.f28; rfl) (by unfold Try.f28; decide) (Nat.le_of_ble_eq_true (by unfold Try.f28; rfl)) (by kernel_rfl)]
  have hB := ha.start [.tree (encT (.mk 4 b lg l s m kg ks))]
  have e1 : env0 [a, .tree (encT (.mk 4 b lg l s m kg ks))] 1 = encT (.mk 4 b lg l s m kg ks) := rfl
  generalize env0 [a, .tree (encT (.mk 4 b lg l s m kg ks))] = env at hB e1
  generalize st0 [a, .tree (encT (.mk 4 b lg l s m kg ks))] = st at hB
  generalize e0 : env 0 = x at hB
  obtain ⟨st', t', c1, c2, c3⟩ := hB.call (f := 48) (call := evalFn Try.prog cfg5 n D) linList [encT (.mk 4 b lg l s m kg ks)] rfl (bs ++ w) H2 37
  simp only [encT, cellsT] at e1 c1
  have b1 : ((4 : Int) == 1) = false := rfl
  have b2 : ((4 : Int) == 2) = false := rfl
  have b3 : ((4 : Int) == 3) = false := rfl
  have b4 : ((4 : Int) == 4) = true := rfl
  simp only [simP, simB, keep5, Nat.reduceBEq, own5, String.reduceAppend, String.reduceBEq, Bool.or_false, Bool.or_true, Bool.or_self, ↓reduceIte, Nat.reduceEqDiff, Nat.reduceAdd, simA, simL, simN, Nat.zero_add, e0, e1, boxT_agg, faRT_0, ldRT, ldRT_int, y_eql, b1, b2, b3, b4, c1]
  exact finish_Bs ha [_] _ rfl _ 37 t' _ _ _ (by simp only [zfk, ↓reduceIte, Nat.reduceEqDiff]; try rfl) c2
set_option maxHeartbeats 16000000 in
theorem term1_6 (n D : Nat) (b : Bool) (lg : Gk) (l : List Nat) (s : List UInt8) (m : Int) (kg : Gk) (ks : List T) (hg : goodT (.mk 6 b lg l s m kg ks)) : Term1 n (D+4) (.mk 6 b lg l s m kg ks) := by
  intro a bs ha hl
  simp only [goodT] at hg
  have hs := own_str hg.2.1
  rw [putB_6] at hl ⊢
  simp only [List.length_cons, List.length_append] at hl
  have hb4 : (be32 (s.length : Int)).length = 4 := rfl
  rw [evalFn_goP _ Try.func28 (by unfold Try.f28; rfl) (by unfold Try.f28; decide) (Nat.le_of_ble_eq_true (by unfold Try.f28; rfl)) (by kernel_rfl)]
  have hB := ha.start [.tree (encT (.mk 6 b lg l s m kg ks))]
  have e1 : env0 [a, .tree (encT (.mk 6 b lg l s m kg ks))] 1 = encT (.mk 6 b lg l s m kg ks) := rfl
  generalize env0 [a, .tree (encT (.mk 6 b lg l s m kg ks))] = env at hB e1
  generalize st0 [a, .tree (encT (.mk 6 b lg l s m kg ks))] = st at hB
  generalize e0 : env 0 = x at hB
  obtain ⟨st', t', c1, c2, c3⟩ := hB.put (n := n) (d := D+2) [109] .tight rfl (by simp only [List.length_cons, List.length_nil]; omega) 61
  have c1 : callA cfg5 (evalFn Try.prog cfg5 n (D+3)) 61 st 47 [x, .sl [.int .u8 109] 1 .tight] = some (.sl (cellsOfBytes (bs ++ [109])) (bs ++ [109]).length (.tok 61 t'), st') := c1
  obtain ⟨st2, t2, d1, d2, d3⟩ := (Bs.tok (bs := bs ++ [109]) c2).word (n := n) (d := D+1) (s.length : Int) (by simp only [List.length_append, List.length_cons, List.length_nil]; omega) 65
  have e2 : bs ++ [109] ++ be32 (s.length : Int) ++ s = bs ++ 109 :: (be32 (s.length : Int) ++ s) := by rw [List.append_assoc, List.append_assoc]; rfl
  have f1 := tok_put (n := n) (d := D+2) (bs := bs ++ [109] ++ be32 (s.length : Int)) s .loose rfl (by simp only [List.length_append, List.length_cons, List.length_nil]; omega) 69 st2 d2
  rw [e2] at f1
  simp only [encT, cellsT] at e1
  have b1 : ((6 : Int) == 1) = false := rfl
  have b2 : ((6 : Int) == 2) = false := rfl
  have b3 : ((6 : Int) == 3) = false := rfl
  have b4 : ((6 : Int) == 4) = false := rfl
  have b5 : ((6 : Int) == 5) = false := rfl
  have cv := fun st => convSB st s (by omega)
  simp only [simP, simB, keep5, Nat.reduceBEq, own5, String.reduceAppend, String.reduceBEq, Bool.or_false, Bool.or_true, Bool.or_self, ↓reduceIte, Nat.reduceEqDiff, Nat.reduceAdd, simA, simL, simN, Nat.zero_add, zex, List.toList_toArray, len9, ix9, zey, zez, zfa, zfb, zfc, e0, e1, boxT_agg, faRT_0, faRT_2, ldRT_int, ldRT_str, y_eql, b1, b2, b3, b4, b5]
  rw [prune_L (c := .seq (.goto 62) (.seq (.goto 62) (.seq (.goto 63) (.seq (.goto 66) (.seq (.goto 66) (.seq (.goto 67) .skip)))))) (by rfl) (by rfl)]
  simp only [simB, keep5, Nat.reduceBEq, own5, String.reduceAppend, String.reduceBEq, Bool.or_false, Bool.or_true, Bool.or_self, ↓reduceIte, Nat.reduceEqDiff, Nat.reduceAdd, simA, simL, simN, Nat.zero_add, zex, List.toList_toArray, len9, ix9, zey, zez, zfa, zfb, zfc, e0, e1, boxT_agg, faRT_0, faRT_2, ldRT_int, ldRT_str, conv3_5b, opA_lit1, lit1_b, c1, d1, cv, f1, den_gotoY 62 (by decide), den_gotoY 63 (by decide), den_gotoY 66 (by decide), den_gotoY 67 (by decide), gotoY_r, gotoY_s, gotoY_i]
  exact finish_Bs ha [_] _ rfl _ 69 _ _ _ _ (by simp only [zfk, ↓reduceIte, Nat.reduceEqDiff]; try rfl) (by simp only [zfk, ↓reduceIte, Nat.reduceEqDiff]; try rfl)
end Go.Ab

/- Tuples and lists as bytes put behind others; every term that may be (CFG5). Conditions: a term all of whose parts may be; lengths in range. -/
namespace Go.Ab
open Go.Proofs
set_option maxRecDepth 100000
set_option linter.unusedSimpArgs false

set_option maxHeartbeats 16000000 in
theorem term1_5 (n D : Nat) (b : Bool) (lg : Gk) (l : List Nat) (s : List UInt8) (m : Int) (kg : Gk) (ks : List T) (hg : goodT (.mk 5 b lg l s m kg ks)) (hn : ks.length < n) (H : ∀ t ∈ ks, Term1 n (D+3) t) : Term1 n (D+4) (.mk 5 b lg l s m kg ks) := by
  intro a bs ha hl
  have hk40 : ks.length ≤ 1000000 := by
    simp only [goodT, ownT, Bool.and_eq_true] at hg
    have := hg.2.1.2.1.2
    simp at this
    omega
  rw [putB_5] at hl ⊢
  simp only [List.length_cons] at hl
  rw [evalFn_goP _ Try.func28 (by unfold Try.f28; rfl) (by unfold Try.f28; decide) (Nat.le_of_ble_eq_true (by unfold Try.f28; rfl)) (by kernel_rfl)]
  have hB := ha.start [.tree (encT (.mk 5 b lg l s m kg ks))]
  have e1 : env0 [a, .tree (encT (.mk 5 b lg l s m kg ks))] 1 = encT (.mk 5 b lg l s m kg ks) := rfl
  generalize env0 [a, .tree (encT (.mk 5 b lg l s m kg ks))] = env at hB e1
  generalize st0 [a, .tree (encT (.mk 5 b lg l s m kg ks))] = st at hB
  generalize e0 : env 0 = x at hB
  obtain ⟨st', t', c1, c2, c3⟩ := hB.put (n := n) (d := D+2) [104, u8 (ks.length : Int)] .tight rfl (by simp only [List.length_cons, List.length_nil]; omega) 46
  have c1 : callA cfg5 (evalFn Try.prog cfg5 n (D+3)) 46 st 47 [x, .sl [.int .u8 104, .int .u8 ((u8 (ks.length : Int)).toNat : Int)] 2 .tight] = some (.sl (cellsOfBytes (bs ++ [104, u8 (ks.length : Int)])) (bs ++ [104, u8 (ks.length : Int)]).length (.tok 46 t'), st') := c1
  obtain ⟨hd, hhd⟩ : ∃ hd, bs ++ [104, u8 (ks.length : Int)] = hd := ⟨_, rfl⟩
  have hhl : hd.length = bs.length + 2 := by rw [← hhd, List.length_append]; rfl
  have hfin : bs ++ (104 :: u8 (ks.length : Int) :: putAll ks) = hd ++ putAll ks := by rw [← hhd, List.append_assoc]; rfl
  rw [hfin]
  rw [hhd] at c1
  simp only [encT, cellsT] at e1
  have b1 : ((5 : Int) == 1) = false := rfl
  have b2 : ((5 : Int) == 2) = false := rfl
  have b3 : ((5 : Int) == 3) = false := rfl
  have b4 : ((5 : Int) == 4) = false := rfl
  have b5 : ((5 : Int) == 5) = true := rfl
  simp only [simP, simB, keep5, Nat.reduceBEq, own5, String.reduceAppend, String.reduceBEq, Bool.or_false, Bool.or_true, Bool.or_self, ↓reduceIte, Nat.reduceEqDiff, Nat.reduceAdd, simA, simL, simN, Nat.zero_add, e0, e1, boxT_agg, faRT_0, faRT_4, ldRT_int, ldRT_k, y_eql, b1, b2, b3, b4, b5, lenTk, conv3_5b, opA_lit2, lit2_b, c1, den_loop]
  refine loop_ends (X := Nat) (fun i env s => env 48 = .sl (cellsK ks) ks.length (gr kg) ∧ env 49 = .int .i64 (ks.length : Int) ∧ env 50 = .int .i64 (i : Int) ∧ i ≤ ks.length ∧ ∃ p t, p ≠ 6 ∧ env 0 = .sl (cellsOfBytes (hd ++ putAll (ks.take i))) (hd ++ putAll (ks.take i)).length (.tok p t) ∧ s p = ⟨t, .tok 1⟩) (fun i => ks.length - i) (fun _ => (.tok (cellsOfBytes (hd ++ putAll ks)) (hd ++ putAll ks).length 1, [[], []])) ?_ n 0 _ _ (by omega) ⟨(by simp only [zfk, ↓reduceIte, Nat.reduceEqDiff]; try rfl), (by simp only [zfk, ↓reduceIte, Nat.reduceEqDiff]; try rfl), (by simp only [zfk, ↓reduceIte, Nat.reduceEqDiff]; try rfl), Nat.zero_le _, 46, t', by decide, ?_, c2⟩
  rotate_left
  · have h0 : hd ++ putAll (ks.take 0) = hd := List.append_nil hd
    rw [h0]
    exact (by simp only [zfk, ↓reduceIte, Nat.reduceEqDiff]; try rfl)
  rintro rd i hrd ih env1 s1 ⟨e48, e49, e50, hik, p, t1, hp6, e0', hp1⟩
  cases hdr : ks.drop i with
  | nil =>
    have hie : i = ks.length := by have := congrArg List.length hdr; simp only [List.length_drop, List.length_nil] at this; omega
    subst hie
    rw [List.take_length] at e0'
    have q1 : ¬ (ks.length : Int) < (ks.length : Int) := by omega
    simp only [simB, keep5, Nat.reduceBEq, own5, String.reduceAppend, String.reduceBEq, Bool.or_false, Bool.or_true, Bool.or_self, ↓reduceIte, Nat.reduceEqDiff, Nat.reduceAdd, simA, simL, simN, Nat.zero_add, y_lss, e48, e49, e50, e0', q1]
    exact finish_Bs ha [_] _ rfl _ p t1 _ _ _ (by simp only [zfk, ↓reduceIte, Nat.reduceEqDiff]; try rfl) hp1
  | cons u r =>
    have hlt : i < ks.length := by have := congrArg List.length hdr; simp only [List.length_drop, List.length_cons] at this; omega
    have q1 : (i : Int) < (ks.length : Int) := by omega
    have hmem : u ∈ ks := List.mem_of_mem_drop (i := i) (by rw [hdr]; exact List.mem_cons_self ..)
    have ia := fun st => ia_K st ks (gr kg) i hlt
    rw [hdr] at ia
    have ld := fun st => ld_K st u r
    simp only [encT] at ld
    have hlu := putAll_len hmem
    have hlt2 := putAll_take ks i
    have htake : putAll (ks.take (i + 1)) = putAll (ks.take i) ++ putB u := by
      have hx : ks[i]? = some u := by rw [← Nat.add_zero i, ← List.getElem?_drop, hdr]; rfl
      rw [List.take_add_one, hx, putAll_app]
      exact congrArg _ (putAll_one u)
    have hsum : (putAll (ks.take (i + 1))).length ≤ (putAll ks).length := putAll_take ks (i + 1)
    rw [htake, List.length_append] at hsum
    have d1 := fun st hp => tok_term (H u hmem) (p := p) (i := t1) (bs := hd ++ putAll (ks.take i)) (by rw [List.length_append]; omega) 56 st hp
    rw [List.append_assoc, ← htake] at d1
    simp only [encT] at d1
    have g8 := i_add Try.prog 3 (i : Int) 1 (by omega) (by omega)
    simp only [simB, keep5, Nat.reduceBEq, own5, String.reduceAppend, String.reduceBEq, Bool.or_false, Bool.or_true, Bool.or_self, ↓reduceIte, Nat.reduceEqDiff, Nat.reduceAdd, simA, simL, simN, Nat.zero_add, y_lss, e48, e49, e50, e0', q1, ia, ld, zeroT, st_Tt, stT_6, ldT_u, hp6, hp1, d1, g8]
    exact ih (i + 1) _ _ (by omega) rfl ⟨(by simp only [zfk, ↓reduceIte, Nat.reduceEqDiff, e48]; try rfl), (by simp only [zfk, ↓reduceIte, Nat.reduceEqDiff, e49]; try rfl), (by simp only [zfk, ↓reduceIte, Nat.reduceEqDiff]; try rfl), by omega, 56, _, by decide, (by simp only [zfk, ↓reduceIte, Nat.reduceEqDiff]; try rfl), (by simp only [zfk, ↓reduceIte, Nat.reduceEqDiff]; try rfl)⟩
end Go.Ab

/- Lists as bytes put behind others; every term that may be; ext.Put (CFG5). Conditions: a term all of whose parts may be; lengths in range. -/
namespace Go.Ab
open Go.Proofs
set_option maxRecDepth 100000
set_option linter.unusedSimpArgs false

theorem opA_one26Y (call : FuncId → List Arg → Option Out) (q : Bool) (d : Option Tmp) (ty : TypeId) (pos : String) (af : Array Edge) (g : Option (Nat × Bool)) (t : Nat) (env : Env) (s : St) (x : Operand) :
    opA Try.prog cfg5 call q ⟨d, .buildSlice 26 1 #[(0, x)], ty, pos, af, g⟩ t env s = (one26 (ev env x)).map (·, s) := by
  rw [opA_bs]
  simp only [tkTk, eszT, zeroT, Option.bind_some, List.map_cons, List.map_nil]
  rfl
theorem Ap.row {s : St} {d : Nat} {x : AV} {us : List T} (h : Ap s d x us) : ∃ g, x = .sl (cellsK us) us.length g := by
  rcases h with ⟨rfl, rfl⟩ | ⟨_, t, rfl, _⟩
  · exact ⟨.nil, rfl⟩
  · exact ⟨_, rfl⟩
theorem Ap.at {s s2 : St} {d : Nat} {x : AV} {us : List T} (h : Ap s d x us) (hs : s2 d = s d) : Ap s2 d x us := by
  rcases h with ⟨h1, h2⟩ | ⟨h1, t, h2, h3⟩
  · exact .inl ⟨h1, h2⟩
  · exact .inr ⟨h1, t, h2, by rw [hs]; exact h3⟩
theorem Bs.at {s s2 : St} {p : Nat} {x : AV} {bs : List UInt8} (h : Bs s p x bs) (hs : s2 p = s p) : Bs s2 p x bs := by
  rcases h with h | ⟨t, h2, h3⟩
  · exact .inl h
  · exact .inr ⟨t, h2, by rw [hs]; exact h3⟩
noncomputable def liC : Code := (Try.f48.body).getD .skip
noncomputable def li1 : Code := seqR liC
noncomputable def li2 : Code := seqR li1
noncomputable def li3 : Code := seqR li2
set_option maxHeartbeats 16000000 in
theorem li3_eq (n D : Nat) {a : Arg} {bs : List UInt8} (ha : Base a bs) (v : AV) (us : List T) (tl : T) (hun : us.length < n) (H : ∀ t ∈ us, Term1 n (D+3) t) (Ht : Term1 n (D+3) tl) (hl : bs.length + 5 + (putAll us).length + (putB tl).length + 200 ≤ 1000000000000) (hul : us.length ≤ 1000000) (K : Kont)
    (hK : ∀ env s, K .ret env s = finishP Try.prog true (a :: [v].map .tree) #[.tmp 4] env s) (env : Env) (st : St) (x : AV) (g : Grip) (e0 : env 0 = x) (e3 : env 3 = .ptr 3 1 0) (j3 : st 3 = ⟨1, .buf (cellsT tl)⟩) (e5 : env 5 = .sl (cellsK us) us.length g) (hB : Bs st 0 x bs) :
    den Try.prog cfg5 (evalFn Try.prog cfg5 n (D+3)) n li3 K env st = some (.tok (cellsOfBytes (bs ++ 108 :: (be32 us.length ++ (putAll us ++ putB tl)))) (bs ++ 108 :: (be32 us.length ++ (putAll us ++ putB tl))).length 1, [[], []]) := by
  obtain ⟨st', t', c1, c2, c3⟩ := hB.put (n := n) (d := D+2) [108] .tight rfl (by simp only [List.length_cons, List.length_nil]; omega) 24
  have c1 : callA cfg5 (evalFn Try.prog cfg5 n (D+3)) 24 st 47 [x, .sl [.int .u8 108] 1 .tight] = some (.sl (cellsOfBytes (bs ++ [108])) (bs ++ [108]).length (.tok 24 t'), st') := c1
  obtain ⟨st2, t2, d1, d2, d3⟩ := (Bs.tok (bs := bs ++ [108]) c2).word (n := n) (d := D+1) (us.length : Int) (by simp only [List.length_append, List.length_cons, List.length_nil]; omega) 27
  have j3' : st2 3 = ⟨1, .buf (cellsT tl)⟩ := by rw [d3 3 (by decide) (by decide), c3 3 (by decide) (by decide), j3]
  obtain ⟨hd, hhd⟩ : ∃ hd, bs ++ [108] ++ be32 (us.length : Int) = hd := ⟨_, rfl⟩
  have hb4 : (be32 (us.length : Int)).length = 4 := rfl
  have hhl : hd.length = bs.length + 5 := by rw [← hhd, List.length_append, List.length_append, hb4]; rfl
  have hfin : bs ++ (108 :: (be32 (us.length : Int) ++ (putAll us ++ putB tl))) = hd ++ putAll us ++ putB tl := by rw [← hhd]; simp only [List.append_assoc]; rfl
  rw [hfin]
  rw [hhd] at d1
  simp only [li3, li2, li1, liC, seqR, Try.f48, Option.getD_some, simB, keep5, Nat.reduceBEq, own5, String.reduceAppend, String.reduceBEq, Bool.or_false, Bool.or_true, Bool.or_self, ↓reduceIte, Nat.reduceEqDiff, Nat.reduceAdd, simA, simL, simN, Nat.zero_add, e0, e3, e5, lenTk, opA_lit1, lit1_b, c1, d1, den_loop]
  refine loop_ends (X := Nat) (fun i env s => env 28 = .sl (cellsK us) us.length g ∧ env 29 = .int .i64 (us.length : Int) ∧ env 30 = .int .i64 (i : Int) ∧ env 3 = .ptr 3 1 0 ∧ s 3 = ⟨1, .buf (cellsT tl)⟩ ∧ i ≤ us.length ∧ ∃ p t, p ≠ 7 ∧ p ≠ 3 ∧ env 0 = .sl (cellsOfBytes (hd ++ putAll (us.take i))) (hd ++ putAll (us.take i)).length (.tok p t) ∧ s p = ⟨t, .tok 1⟩) (fun i => us.length - i) (fun _ => (.tok (cellsOfBytes (hd ++ putAll us ++ putB tl)) (hd ++ putAll us ++ putB tl).length 1, [[], []])) ?_ n 0 _ _ (by omega) ⟨(by simp only [zfk, ↓reduceIte, Nat.reduceEqDiff, e5]; try rfl), (by simp only [zfk, ↓reduceIte, Nat.reduceEqDiff]; try rfl), (by simp only [zfk, ↓reduceIte, Nat.reduceEqDiff]; try rfl), (by simp only [zfk, ↓reduceIte, Nat.reduceEqDiff, e3]; try rfl), j3', Nat.zero_le _, 27, t2, by decide, by decide, ?_, d2⟩
  rotate_left
  · have h0 : hd ++ putAll (us.take 0) = hd := List.append_nil hd
    rw [h0]
    exact (by simp only [zfk, ↓reduceIte, Nat.reduceEqDiff]; try rfl)
  rintro rd i hrd ih env1 s1 ⟨e28, e29, e30, e3', k3, hik, p, t1, hp7, hp3, e0', hp1⟩
  cases hdr : us.drop i with
  | nil =>
    have hie : i = us.length := by have := congrArg List.length hdr; simp only [List.length_drop, List.length_nil] at this; omega
    subst hie
    rw [List.take_length] at e0'
    have q1 : ¬ (us.length : Int) < (us.length : Int) := by omega
    have f1 := tok_term Ht (p := p) (i := t1) (bs := hd ++ putAll us) (by rw [List.length_append]; omega) 40 s1 hp1
    simp only [encT] at f1
    simp only [simB, keep5, Nat.reduceBEq, own5, String.reduceAppend, String.reduceBEq, Bool.or_false, Bool.or_true, Bool.or_self, ↓reduceIte, Nat.reduceEqDiff, Nat.reduceAdd, simA, simL, simN, Nat.zero_add, y_lss, e28, e29, e30, e0', e3', k3, q1, ldT_u, f1, hK]
    exact finish_Bs ha [v] true rfl 4 40 _ _ _ _ (by simp only [zfk, ↓reduceIte, Nat.reduceEqDiff]; try rfl) (by simp only [zfk, ↓reduceIte, Nat.reduceEqDiff]; try rfl)
  | cons u r =>
    have hlt : i < us.length := by have := congrArg List.length hdr; simp only [List.length_drop, List.length_cons] at this; omega
    have q1 : (i : Int) < (us.length : Int) := by omega
    have hmem : u ∈ us := List.mem_of_mem_drop (i := i) (by rw [hdr]; exact List.mem_cons_self ..)
    have ia := fun st => ia_K st us g i hlt
    rw [hdr] at ia
    have ld := fun st => ld_K st u r
    simp only [encT] at ld
    have hlu := putAll_len hmem
    have hlt2 := putAll_take us i
    have htake : putAll (us.take (i + 1)) = putAll (us.take i) ++ putB u := by
      have hx : us[i]? = some u := by rw [← Nat.add_zero i, ← List.getElem?_drop, hdr]; rfl
      rw [List.take_add_one, hx, putAll_app]
      exact congrArg _ (putAll_one u)
    have hsum : (putAll (us.take (i + 1))).length ≤ (putAll us).length := putAll_take us (i + 1)
    rw [htake, List.length_append] at hsum
    have f1 := fun st hp => tok_term (H u hmem) (p := p) (i := t1) (bs := hd ++ putAll (us.take i)) (by rw [List.length_append]; omega) 36 st hp
    rw [List.append_assoc, ← htake] at f1
    simp only [encT] at f1
    have g8 := i_add Try.prog 3 (i : Int) 1 (by omega) (by omega)
    have hp3' : ¬ 3 = p := fun h => hp3 h.symm
    simp only [simB, keep5, Nat.reduceBEq, own5, String.reduceAppend, String.reduceBEq, Bool.or_false, Bool.or_true, Bool.or_self, ↓reduceIte, Nat.reduceEqDiff, Nat.reduceAdd, simA, simL, simN, Nat.zero_add, y_lss, e28, e29, e30, e0', q1, ia, ld, zeroT, st_Tt, stT_6, ldT_u, hp7, hp1, f1, g8]
    exact ih (i + 1) _ _ (by omega) rfl ⟨(by simp only [zfk, ↓reduceIte, Nat.reduceEqDiff, e28]; try rfl), (by simp only [zfk, ↓reduceIte, Nat.reduceEqDiff, e29]; try rfl), (by simp only [zfk, ↓reduceIte, Nat.reduceEqDiff]; try rfl), (by simp only [zfk, ↓reduceIte, Nat.reduceEqDiff, e3']; try rfl), (by simp only [zfk, ↓reduceIte, Nat.reduceEqDiff, hp3', k3]; try rfl), by omega, 36, _, by decide, by decide, (by simp only [zfk, ↓reduceIte, Nat.reduceEqDiff]; try rfl), (by simp only [zfk, ↓reduceIte, Nat.reduceEqDiff]; try rfl)⟩
set_option maxHeartbeats 16000000 in
theorem list1_eq (n D : Nat) (t : T) (hg : goodT t) (hk : kindT t = 4) (hn : nodT t < n) (hnl : nodT t ≤ 1000000) (H : ∀ u, goodT u → nodT u < nodT t → Term1 n (D+3) u) : List1 n (D+4) t := by
  intro a bs ha hl
  obtain ⟨h1, h2, h3, h4, h5, h6⟩ := spine_ok (nodT t) t hg (Nat.le_refl _)
  obtain ⟨us, hus⟩ : ∃ us, (spineT (nodT t) t).1 = us := ⟨_, rfl⟩
  obtain ⟨tl, htl⟩ : ∃ tl, (spineT (nodT t) t).2 = tl := ⟨_, rfl⟩
  rw [hus] at h3 h4 h5 h6
  rw [htl] at h1 h2 h4 h5
  have hpos : 0 < us.length := by
    obtain ⟨k, b, lg, l, s, m, kg, ks⟩ := t
    simp only [kindT] at hk
    subst hk
    obtain ⟨x, u, rfl⟩ := good_pair hg rfl
    rw [show nodT (T.mk 4 b lg l s m kg [x, u]) = nodK [x, u] + 1 from rfl, spine_cons] at hus
    rw [← hus]; exact Nat.succ_pos _
  have hnus := nodK_len us
  rw [putB_list t hk, h5, h6] at hl ⊢
  simp only [List.length_cons, List.length_append] at hl
  have hb4 : (be32 (us.length : Int)).length = 4 := rfl
  rw [evalFn_go _ Try.func48 (by unfold Try.f48; rfl) (by unfold Try.f48; decide) (Nat.le_of_ble_eq_true (by unfold Try.f48; rfl)) (by kernel_rfl)]
  have hB := ha.start [.tree (encT t)]
  have e1 : env0 [a, .tree (encT t)] 1 = encT t := rfl
  have j17 : (st0 [a, .tree (encT t)] 17).t = 0 := rfl
  have j3 : (st0 [a, .tree (encT t)] 3).t = 0 := rfl
  generalize env0 [a, .tree (encT t)] = env at hB e1
  generalize st0 [a, .tree (encT t)] = st at hB j17 j3
  generalize e0 : env 0 = x at hB
  have hc : liC = .seq (seqL liC) (.seq (seqL li1) (.seq (seqL li2) li3)) := rfl
  show den _ _ _ _ liC _ _ _ = _
  rw [hc]
  simp only [encT] at e1
  simp only [seqL, li2, li1, liC, seqR, Try.f48, Option.getD_some, simB, keep5, Nat.reduceBEq, own5, String.reduceAppend, String.reduceBEq, Bool.or_false, Bool.or_true, Bool.or_self, ↓reduceIte, Nat.reduceEqDiff, Nat.reduceAdd, simA, simL, simN, Nat.zero_add, e0, e1, j3, den_loop]
  refine loop_ends (X := Nat × T × List T) (fun q env s => env 0 = x ∧ env 3 = .ptr 3 1 0 ∧ s 3 = ⟨1, .buf (cellsT q.2.1)⟩ ∧ Ap s 17 (env 5) q.2.2 ∧ s 0 = st 0 ∧ q.2.2 ++ (spineT q.1 q.2.1).1 = us ∧ (spineT q.1 q.2.1).2 = tl ∧ goodT q.2.1 ∧ nodT q.2.1 ≤ q.1 ∧ q.2.2.length + nodT q.2.1 ≤ nodT t) (fun q => q.1) (fun _ => (.tok (cellsOfBytes (bs ++ 108 :: (be32 us.length ++ (putAll us ++ putB tl)))) (bs ++ 108 :: (be32 us.length ++ (putAll us ++ putB tl))).length 1, [[], []])) ?_ n (nodT t, t, []) _ _ (by dsimp only; omega) ⟨(by simp only [zfk, ↓reduceIte, Nat.reduceEqDiff, e0]; try rfl), (by simp only [zfk, ↓reduceIte, Nat.reduceEqDiff, j3]; try rfl), (by simp only [zfk, ↓reduceIte, Nat.reduceEqDiff, j3]; try rfl), .inl ⟨rfl, (by simp only [zfk, ↓reduceIte, Nat.reduceEqDiff]; try rfl)⟩, (by simp only [zfk, ↓reduceIte, Nat.reduceEqDiff]; try rfl), hus, htl, hg, Nat.le_refl _, by simp only [List.length_nil]; omega⟩
  rintro rd ⟨f, u, acc⟩ hrd ih env1 s1 ⟨e0', e3', k3, ap, k0, hac, htl', hgu, hnu, hlen⟩
  dsimp only at k3 ap hac htl' hgu hnu hlen
  obtain ⟨k, b, lg, l, s, m, kg, ks⟩ := u
  simp only [cellsT] at k3
  by_cases hk4 : k = 4
  · subst hk4
    obtain ⟨h, w, rfl⟩ := good_pair hgu rfl
    have hnw : nodT (.mk 4 b lg l s m kg [h, w]) = nodT h + (nodT w + 0) + 1 := rfl
    rw [hnw] at hnu hlen
    obtain ⟨f, rfl⟩ : ∃ f', f = f' + 1 := ⟨f - 1, by omega⟩
    rw [spine_cons] at hac htl'
    dsimp only at hac htl'
    simp only [goodT, goodK, and_true] at hgu
    have b1 : ((4 : Int) == 4) = true := rfl
    have ia0 : ∀ st, indexAddrA Try.prog 26 st (.sl (cellsK [h, w]) [h, w].length (gr kg)) (.int .i64 0) = some (.rptr (cellsK [h, w])) := fun st => ia_K st [h, w] (gr kg) 0 (by simp)
    have ia1 : ∀ st, indexAddrA Try.prog 26 st (.sl (cellsK [h, w]) [h, w].length (gr kg)) (.int .i64 1) = some (.rptr (cellsK [w])) := fun st => ia_K st [h, w] (gr kg) 1 (by simp)
    have l0 := fun st => ld_K st h [w]
    have l1 := fun st => ld_K st w []
    simp only [encT] at l0 l1
    generalize e5' : env1 5 = x5 at ap
    obtain ⟨x', s', a1, a2, a3⟩ := ap.push (by omega) h
    have k3' : s' 3 = s1 3 := a3 3 (by decide)
    rw [k3] at k3'
    simp only [simB, keep5, Nat.reduceBEq, own5, String.reduceAppend, String.reduceBEq, Bool.or_false, Bool.or_true, Bool.or_self, ↓reduceIte, Nat.reduceEqDiff, Nat.reduceAdd, simA, simL, simN, Nat.zero_add, e0', e3', k3, e5', faT_0, faT_4, ldT_0, ldT_4, Nat.reduceAdd, y_eql, b1, ia0, ia1, l0, l1, opA_one26Y, one26_T, a1, k3', st_Tt, stT_6]
    refine ih (f, w, acc ++ [h]) _ _ (by dsimp only; omega) rfl ⟨(by simp only [zfk, ↓reduceIte, Nat.reduceEqDiff, e0']; try rfl), (by simp only [zfk, ↓reduceIte, Nat.reduceEqDiff, e3']; try rfl), (by simp only [zfk, ↓reduceIte, Nat.reduceEqDiff]; try rfl), ?_, ?_, by dsimp only; rw [List.append_assoc]; exact hac, htl', hgu.2.2.2, by dsimp only; omega, by dsimp only; rw [List.length_append]; simp only [List.length_cons, List.length_nil]; have := nod_pos h; omega⟩
    · have ap2 : Ap (upd s' 3 ⟨1, .buf (cellsT w)⟩) 17 x' (acc ++ [h]) := a2.at (upd_ne _ _ (by decide))
      simp only [zfk, ↓reduceIte, Nat.reduceEqDiff]
      exact ap2
    · rw [upd_ne _ _ (by decide), a3 0 (by decide), k0]
  · have hkk : kindT (.mk k b lg l s m kg ks) ≠ 4 := by simpa [kindT] using hk4
    rw [spine_no _ _ hkk, List.append_nil] at hac
    rw [spine_no _ _ hkk] at htl'
    dsimp only at htl'
    subst hac
    obtain ⟨g, e5'⟩ := ap.row
    have b1 : (k == 4) = false := beq_eq_false_iff_ne.mpr hk4
    simp only [simB, keep5, Nat.reduceBEq, own5, String.reduceAppend, String.reduceBEq, Bool.or_false, Bool.or_true, Bool.or_self, ↓reduceIte, Nat.reduceEqDiff, Nat.reduceAdd, simA, simL, simN, Nat.zero_add, e0', e3', k3, faT_0, ldT_0, Nat.reduceAdd, y_eql, b1]
    refine li3_eq n D ha (encT t) acc tl (by omega) (fun w hw => H w (goodK_memY h3 hw) (by have := nodK_memY hw; omega)) (H tl h2 (by omega)) (by omega) (by omega) _ (fun _ _ => rfl) _ _ x g (by simp only [zfk, ↓reduceIte, Nat.reduceEqDiff, e0']; try rfl) (by simp only [zfk, ↓reduceIte, Nat.reduceEqDiff, e3']; try rfl) ?_ (by simp only [zfk, ↓reduceIte, Nat.reduceEqDiff, e5']; try rfl) (hB.at k0)
    rw [← htl']; exact k3
theorem walk_term : ∀ (N : Nat) (t : T), goodT t → nodT t ≤ N → nodT t ≤ 1000000 → ∀ n D, nodT t + 100 ≤ n → 3 * nodT t + 6 ≤ D → Term1 n D t
  | 0, t, _, h, _, _, _, _, _ => by have := nod_pos t; omega
  | N + 1, .mk k b lg l s m kg ks, hg, h, h6, n, D, hn, hD => by
    have hg0 := hg
    simp only [goodT] at hg
    have hnd : nodT (.mk k b lg l s m kg ks) = nodK ks + 1 := rfl
    rw [hnd] at h h6 hn hD
    obtain ⟨E, rfl⟩ : ∃ E, D = E + 4 := ⟨D - 4, by omega⟩
    rcases own_kind hg.2.1 with rfl | rfl | rfl | rfl | rfl | rfl
    · exact term1_1 n E (by omega) b lg l s m kg ks hg0
    · exact term1_2 n E b lg l s m kg ks hg0
    · exact term1_3 n E b lg l s m kg ks
    · obtain ⟨E, rfl⟩ : ∃ E', E = E' + 1 := ⟨E - 1, by omega⟩
      exact term1_4 n (E+4) b lg l s m kg ks (list1_eq n E _ hg0 rfl (by rw [hnd]; omega) (by rw [hnd]; omega) (fun u hu hlt => walk_term N u hu (by rw [hnd] at hlt; omega) (by rw [hnd] at hlt; omega) n (E+3) (by rw [hnd] at hlt; omega) (by rw [hnd] at hlt; omega)))
    · have := nodK_len ks
      exact term1_5 n E b lg l s m kg ks hg0 (by omega) (fun u hu => walk_term N u (goodK_memY hg.2.2 hu) (by have := nodK_memY hu; omega) (by have := nodK_memY hu; omega) n (E+3) (by have := nodK_memY hu; omega) (by have := nodK_memY hu; omega))
    · exact term1_6 n E b lg l s m kg ks hg0
end Go.Ab

/- ext.Put (CFG5). Conditions: limbs in range; so many nodes at most; lengths in range. -/
namespace Go.Ab
open Go.Proofs
set_option maxRecDepth 100000
set_option linter.unusedSimpArgs false

mutual
theorem good_okD : ∀ (t : T) (d : Int), okD t d → wfT t → goodT t
  | .mk k b lg l s n kg ks, d, h, hw => by
    simp only [okD] at h
    simp only [wfT] at hw
    simp only [goodT]
    exact ⟨hw.1, h.2.1, good_okJ k ks 0 d h.2.2 hw.2⟩
theorem good_okJ (k : Int) : ∀ (ks : List T) (i : Nat) (d : Int), okJ k ks i d → wfK ks → goodK ks
  | [], _, _, _, _ => by simp only [goodK]
  | t :: r, i, d, h, hw => by
    simp only [okJ] at h
    simp only [wfK] at hw
    simp only [goodK]
    exact ⟨good_okD t _ h.1 hw.1, good_okJ k r (i + 1) d h.2 hw.2⟩
end
theorem lenB (s : St) (xs : List AV) (m : Nat) (g : Grip) : lenA Try.prog 22 s (.sl xs m g) = some (.int .i64 (m : Int)) := by simp only [lenA, tkB]
theorem slFull (s : St) (b : List UInt8) (g : Grip) : sliceA Try.prog 22 s (.sl (cellsOfBytes b) b.length g) none (some (.int .i64 (b.length : Int))) (some (.int .i64 (b.length : Int))) = some (.sl (cellsOfBytes b) b.length .tight) := by
  have h1 : (0 : Int) ≤ (b.length : Int) ∧ (b.length : Int) ≤ (b.length : Nat) := ⟨by omega, by omega⟩
  simp only [sliceA, tkB, Option.isNone_some, Option.isSome_some, Bool.false_eq_true, and_false, if_false, boundA, h1, and_self, if_true, Int.toNat_natCast, Option.bind_some, eszB, cB_len, Nat.mul_one, Nat.zero_mul, List.drop_zero, Nat.sub_zero, true_and, true_or]
  rw [List.take_of_length_le (by rw [cB_len]; exact Nat.le_refl _)]
theorem cChkY (n d : Nat) (t : T) (hd : htT t ≤ 6186) (hn : nodT t < 1000000) (hw : wfT t) (D : Nat) (s : St) : callA cfg5 (evalFn Try.prog cfg5 n (d+1)) D s 27 [encT t] = some (.bool (chkT t 1 2000).1, s) :=
  callA_trees (vs := [encT t]) rfl (ev5 (n := n) (d := d) rfl (evalFn_mono (show 1000000 ≤ 9223372036854775808 by decide) 6190 6190 (Nat.le_refl _) _ _ _ (tCheck_eq 1000000 (by decide) (Nat.le_refl _) 6186 t hd hn hw)))
theorem finish_tok {as1 : List Arg} {os : List (List AV)} (k : Bool) (hk : k = false) (t p i : Nat) (bs : List UInt8) (env : Env) (s : St) (hv : env t = .sl (cellsOfBytes bs) bs.length (.tok p i)) (ho : outsA s 0 as1 = some os) :
    finishP Try.prog k as1 #[.tmp t] env s = some (.tree (.sl (cellsOfBytes bs) bs.length .loose), os) := by
  subst hk
  rw [finishP_t1]
  simp only [finish, finish1, hv, Bool.false_eq_true, if_false, Option.bind_some, ho, Option.map_some]
theorem finish_slB {as1 : List Arg} {os : List (List AV)} (k : Bool) (hk : k = false) (t : Nat) (xs : List AV) (len : Nat) (g : Grip) (hg : g.isTok = false) (env : Env) (s : St) (hv : env t = .sl xs len g) (ho : outsA s 0 as1 = some os) :
    finishP Try.prog k as1 #[.tmp t] env s = some (.tree (.sl xs len g), os) := by
  subst hk
  rw [finishP_t1]
  cases g <;> first | (simp only [finish, finish1, hv, settle, Option.bind_some, ho, Option.map_some]; done) | cases hg
set_option maxHeartbeats 8000000 in
theorem ePut_ok (n D : Nat) (b : List UInt8) (g : Grip) (t : T) (hc : (chkT t 1 2000).1 = true) (hw : wfT t) (hn : 2200 ≤ n) (hD : 6010 ≤ D) (hl : b.length + (putB t).length + 200 ≤ 1000000000000) :
    evalFn Try.prog cfg5 n (D+1) 10 [.tree (.sl (cellsOfBytes b) b.length g), .tree (encT t)] = some (.tree (.sl (cellsOfBytes (b ++ putB t)) (b ++ putB t).length .loose), [[], []]) := by
  have hnd : nodT t ≤ 2000 := by have := chkT_nod t 1 2000 hc; omega
  have hg := good_okD t 1 (chk_okD t 1 2000 hc) hw
  have hht := ht_nod t
  obtain ⟨E, rfl⟩ : ∃ E, D = E + 1 := ⟨D - 1, by omega⟩
  have ck := cChkY n E t (by omega) (by omega) hw
  rw [hc] at ck
  have hT := walk_term 2000 t hg hnd (by omega) n (E+1) (by omega) (by omega)
  rw [evalFn_go _ Try.func10 (by unfold Try.f10; rfl) (by unfold Try.f10; decide) (Nat.le_of_ble_eq_true (by unfold Try.f10; rfl)) (by kernel_rfl)]
  have e0 : env0 [.tree (.sl (cellsOfBytes b) b.length g), .tree (encT t)] 0 = .sl (cellsOfBytes b) b.length g := rfl
  have e1 : env0 [.tree (.sl (cellsOfBytes b) b.length g), .tree (encT t)] 1 = encT t := rfl
  have ho : ∀ s, outsA s 0 [.tree (.sl (cellsOfBytes b) b.length g), .tree (encT t)] = some [[], []] := fun s => rfl
  generalize hA : [Arg.tree (.sl (cellsOfBytes b) b.length g), .tree (encT t)] = as1 at e0 e1 ho
  generalize env0 as1 = env at e0 e1
  generalize st0 as1 = st
  obtain ⟨st', t', c1, c2, c3⟩ := Bs.term hT (st := st) (p := 0) (x := .sl (cellsOfBytes b) b.length .tight) (bs := b) (.inl ⟨.tight, .inl rfl, rfl⟩) hl 16
  have lr : ∀ s, loadA Try.prog 28 s (.rptr (cellsT t)) = some (.agg (cellsT t)) := fun s => by
    obtain ⟨k, b1, lg, l, s1, m, kg, ks⟩ := t
    exact ldRT _ _ _ _ _ _ _
  simp only [encT] at e1 ck c1
  simp only [simB, keep5, Nat.reduceBEq, own5, String.reduceAppend, String.reduceBEq, Bool.or_false, Bool.or_true, Bool.or_self, ↓reduceIte, Nat.reduceEqDiff, Nat.reduceAdd, simA, simL, simN, Nat.zero_add, e0, e1, boxT_agg, lr, ck, unA_not', Bool.not_true, lenB, zdp, slFull, c1]
  exact finish_tok _ rfl _ 16 t' _ _ _ (by simp only [zfk, ↓reduceIte, Nat.reduceEqDiff]; try rfl) (ho _)
set_option maxHeartbeats 8000000 in
theorem ePut_no (n D : Nat) (b : List UInt8) (g : Grip) (hg : g.isTok = false) (t : T) (hc : (chkT t 1 2000).1 = false) (hw : wfT t) (hnd : nodT t ≤ 6000) :
    evalFn Try.prog cfg5 n (D+2) 10 [.tree (.sl (cellsOfBytes b) b.length g), .tree (encT t)] = some (.tree (.sl (cellsOfBytes b) b.length g), [[], []]) := by
  have hht := ht_nod t
  have ck := cChkY n D t (by omega) (by omega) hw
  rw [hc] at ck
  rw [evalFn_go _ Try.func10 (by unfold Try.f10; rfl) (by unfold Try.f10; decide) (Nat.le_of_ble_eq_true (by unfold Try.f10; rfl)) (by kernel_rfl)]
  have lr : ∀ s, loadA Try.prog 28 s (.rptr (cellsT t)) = some (.agg (cellsT t)) := fun s => by
    obtain ⟨k, b1, lg, l, s1, m, kg, ks⟩ := t
    exact ldRT _ _ _ _ _ _ _
  simp only [encT] at ck
  simp only [simB, keep5, Nat.reduceBEq, own5, String.reduceAppend, String.reduceBEq, Bool.or_false, Bool.or_true, Bool.or_self, ↓reduceIte, Nat.reduceEqDiff, Nat.reduceAdd, simA, simL, simN, Nat.zero_add, encT, boxT_agg, lr, ck, unA_not', Bool.not_false]
  exact finish_slB _ rfl _ _ _ g hg _ _ (by simp only [zfk, ↓reduceIte, Nat.reduceEqDiff]; try rfl) rfl
end Go.Ab

/- A reading: its parts, what is wrong, bytes taken (CFG5). Conditions: places in range. -/
namespace Go.Ab
open Go.Proofs
set_option maxRecDepth 100000
set_option linter.unusedSimpArgs false

def rC (bs : List UInt8) (g : Grip) (s : RS) : List AV := [.sl (cellsOfBytes bs) bs.length g, .int .i64 (s.i : Int), .int .i64 s.tm, .int .i64 s.e]
theorem callA_ptr {call : FuncId → List Arg → Option Out} {f : FuncId} {st : St} {p t : Nat} {xs ys : List AV} {r : AV} (vs : List AV) (ht : vs.all isTree = true) (hc : call f (.ptr xs 0 :: vs.map .tree) = some (.tree r, ys :: vs.map fun _ => [])) (D : Nat) (hp : st p = ⟨t, .buf xs⟩) :
    callA cfg5 call D st f (.ptr p t 0 :: vs) = some (r, upd st p ⟨t, .buf ys⟩) := by
  have ha : argA cfg5 f st 0 (.ptr p t 0) = some (.ptr xs 0) := by simp only [argA, hp, if_true]
  have hgl : givesL (.ptr p t 0 :: vs) (.ptr xs 0 :: vs.map .tree) = [p] := by simp only [givesL, givesOf, givesL_trees]
  have hll : lendsL (.ptr p t 0 :: vs) (.ptr xs 0 :: vs.map .tree) = [] := by simp only [lendsL, lendsOf, lendsL_trees vs ht]
  simp only [callA, argsA, ha, argsA_trees f st vs 1 ht, Option.bind_some, Option.map_some, hgl, hll, List.nodup_cons, List.nodup_nil, List.not_mem_nil, not_false_eq_true, false_implies, implies_true, and_self, if_true, hc, List.foldl_nil, ite_self, backA, givesOf, backA_trees, hp, resA]
section
variable (s : St) (p k : Nat)
theorem esz59a : esz Try.prog 34 = some 1 := by kernel_rfl
theorem esz59i : esz Try.prog 3 = some 1 := by kernel_rfl
theorem esz59b : esz Try.prog 22 = some 1 := by kernel_rfl
theorem sh59a : shOf Try.prog 34 = some (false, 1) := by kernel_rfl
theorem sh59i : shOf Try.prog 3 = some (false, 1) := by kernel_rfl
theorem sh59b : shOf Try.prog 22 = some (false, 1) := by kernel_rfl
theorem fd59_0 : fieldOf Try.prog 59 0 = some (22, 0) := by kernel_rfl
theorem fd59_1 : fieldOf Try.prog 59 1 = some (3, 1) := by kernel_rfl
theorem fd59_2 : fieldOf Try.prog 59 2 = some (3, 2) := by kernel_rfl
theorem fd59_3 : fieldOf Try.prog 59 3 = some (34, 3) := by kernel_rfl
theorem fa59_0 : fieldAddrA Try.prog 59 s (.ptr p k 0) 0 = faE (s p) p k 0 := by
  simp only [fieldAddrA, fd59_0, esz59b, live, cellsAt_E, faE, Nat.zero_add]
theorem fa59_1 : fieldAddrA Try.prog 59 s (.ptr p k 0) 1 = faE (s p) p k 1 := by
  simp only [fieldAddrA, fd59_1, esz59i, live, cellsAt_E, faE, Nat.zero_add]
theorem fa59_2 : fieldAddrA Try.prog 59 s (.ptr p k 0) 2 = faE (s p) p k 2 := by
  simp only [fieldAddrA, fd59_2, esz59i, live, cellsAt_E, faE, Nat.zero_add]
theorem fa59_3 : fieldAddrA Try.prog 59 s (.ptr p k 0) 3 = faE (s p) p k 3 := by
  simp only [fieldAddrA, fd59_3, esz59a, live, cellsAt_E, faE, Nat.zero_add]
end
section
variable (t k : Nat) (a b c d : AV)
theorem ld59_0 : ldE Try.prog 22 ⟨t, .buf [a, b, c, d]⟩ k 0 = if t = k then some a else none := by
  rw [ldE_buf, cellsE_buf]
  by_cases h : t = k <;> simp [h, partA, sh59b]
theorem ld59_1 : ldE Try.prog 3 ⟨t, .buf [a, b, c, d]⟩ k 1 = if t = k then some b else none := by
  rw [ldE_buf, cellsE_buf]
  by_cases h : t = k <;> simp [h, partA, sh59i]
theorem ld59_2 : ldE Try.prog 3 ⟨t, .buf [a, b, c, d]⟩ k 2 = if t = k then some c else none := by
  rw [ldE_buf, cellsE_buf]
  by_cases h : t = k <;> simp [h, partA, sh59i]
theorem ld59_3 : ldE Try.prog 34 ⟨t, .buf [a, b, c, d]⟩ k 3 = if t = k then some d else none := by
  rw [ldE_buf, cellsE_buf]
  by_cases h : t = k <;> simp [h, partA, sh59a]
end
def stY (e : Ent) (p k off : Nat) (s : St) (v : AV) : Option St := match e with
  | ⟨t, .buf xs⟩ => if t = k then (if off < xs.length then some (upd s p ⟨t, .buf (xs.set off v)⟩) else none) else none
  | _ => none
theorem st_iY (s : St) (p k off : Nat) (z : Int) : storeA Try.prog 3 s (.ptr p k off) (.int .i64 z) = stY (s p) p k off s (.int .i64 z) := by
  simp only [storeA, settle, Option.bind_some, stY]
  cases h : s p with
  | mk t c => cases c <;> simp [esz59i, cellOk]
theorem st_eY (s : St) (p k off : Nat) (z : Int) : storeA Try.prog 34 s (.ptr p k off) (.int .i64 z) = stY (s p) p k off s (.int .i64 z) := by
  simp only [storeA, settle, Option.bind_some, stY]
  cases h : s p with
  | mk t c => cases c <;> simp [esz59a, cellOk]
section
variable (t p k : Nat) (s : St) (a b c d v : AV)
theorem stY_1 : stY ⟨t, .buf [a, b, c, d]⟩ p k 1 s v = if t = k then some (upd s p ⟨t, .buf [a, v, c, d]⟩) else none := by simp [stY]
theorem stY_2 : stY ⟨t, .buf [a, b, c, d]⟩ p k 2 s v = if t = k then some (upd s p ⟨t, .buf [a, b, v, d]⟩) else none := by simp [stY]
theorem stY_3 : stY ⟨t, .buf [a, b, c, d]⟩ p k 3 s v = if t = k then some (upd s p ⟨t, .buf [a, b, c, v]⟩) else none := by simp [stY]
end
section
variable {P : Program} {cfg : Cfg} {call : FuncId → List Arg → Option Out} {d : Option Tmp} {ty : TypeId} {pos : String} {af : Array Edge} {g : Option (Nat × Bool)} {t : Nat} {q : Bool} {env : Env} {s : St}
def nckA (s : St) (v : AV) : Option (AV × St) := match v with
  | .ptr p t off => if live s p t then some (.ptr p t off, s) else none
  | .rptr xs => some (.rptr xs, s)
  | _ => none
theorem opA_nck (x : Operand) : opA P cfg call q ⟨d, .nilCheck x, ty, pos, af, g⟩ t env s = nckA s (ev env x) := rfl
theorem nckA_p (p k off : Nat) : nckA s (.ptr p k off) = (faE (s p) p k off).map (·, s) := by
  simp only [nckA, live, cellsAt_E, faE]
  split <;> rfl
end
theorem outs_ptr (s : St) (xs ys : List AV) (h : s 0 = ⟨0, .buf ys⟩) (vs : List AV) : outsA s 0 (.ptr xs 0 :: vs.map .tree) = some (ys :: vs.map fun _ => []) := by
  have h2 : ∀ (vs : List AV) (k : Nat), outsA s k (vs.map .tree) = some (vs.map fun _ => []) := by
    intro vs
    induction vs with
    | nil => intro k; rfl
    | cons v vs ih => intro k; simp only [List.map_cons, outsA, ih, Option.bind_some, Option.map_some]
  simp only [outsA, h, h2, Option.bind_some, Option.map_some]
theorem finish_0 (k : Bool) (as1 : List Arg) (os : List (List AV)) (env : Env) (s : St) (ho : outsA s 0 as1 = some os) : finishP Try.prog k as1 #[] env s = some (.tree (.tup []), os) := by
  have e : finishP Try.prog k as1 #[] env s = (outsA s 0 as1).map (.tree (.tup []), ·) := rfl
  rw [e, ho]; rfl
set_option maxHeartbeats 8000000 in
theorem efail_eq (n d : Nat) (bs : List UInt8) (g : Grip) (s : RS) (e : Int) : evalFn Try.prog cfg5 n (d+1) 54 [.ptr (rC bs g s) 0, .tree (.int .i64 e)] = some (.tree (.tup []), [rC bs g (s.fail e), []]) := by
  rw [evalFn_go _ Try.func54 (by unfold Try.f54; rfl) (by unfold Try.f54; decide) (Nat.le_of_ble_eq_true (by unfold Try.f54; rfl)) (by kernel_rfl)]
  have e0 : env0 [.ptr (rC bs g s) 0, .tree (.int .i64 e)] 0 = .ptr 0 0 0 := rfl
  have e1 : env0 [.ptr (rC bs g s) 0, .tree (.int .i64 e)] 1 = .int .i64 e := rfl
  have j0 : st0 [.ptr (rC bs g s) 0, .tree (.int .i64 e)] 0 = ⟨0, .buf (rC bs g s)⟩ := rfl
  have ho := fun s ys h => outs_ptr s (rC bs g ⟨0, 0, 0⟩) ys h [.int .i64 e]
  have ho : ∀ s' ys, s' 0 = ⟨0, .buf ys⟩ → outsA s' 0 [.ptr (rC bs g s) 0, .tree (.int .i64 e)] = some [ys, []] := fun s' ys h => outs_ptr s' (rC bs g s) ys h [.int .i64 e]
  generalize [Arg.ptr (rC bs g s) 0, .tree (.int .i64 e)] = as1 at e0 e1 j0 ho
  generalize env0 as1 = env at e0 e1
  generalize st0 as1 = st at j0
  obtain ⟨i, tm, e'⟩ := s
  simp only [rC, RS.fail] at j0 ⊢
  by_cases h : e' = 0
  · have b1 : (e' == 0) = true := by rw [h]; rfl
    rw [if_pos h]
    simp only [simB, keep5, Nat.reduceBEq, own5, String.reduceAppend, String.reduceBEq, Bool.or_false, Bool.or_true, Bool.or_self, ↓reduceIte, Nat.reduceEqDiff, Nat.reduceAdd, simA, simL, simN, Nat.zero_add, e0, e1, j0, opA_nck, nckA_p, fa59_3, ld59_3, y_eql, b1, st_eY, stY_3]
    exact finish_0 _ _ _ _ _ (ho _ _ (by simp only [zfk, ↓reduceIte, Nat.reduceEqDiff]; try rfl))
  · have b1 : (e' == 0) = false := beq_eq_false_iff_ne.mpr h
    rw [if_neg h]
    simp only [simB, keep5, Nat.reduceBEq, own5, String.reduceAppend, String.reduceBEq, Bool.or_false, Bool.or_true, Bool.or_self, ↓reduceIte, Nat.reduceEqDiff, Nat.reduceAdd, simA, simL, simN, Nat.zero_add, e0, e1, j0, opA_nck, nckA_p, fa59_3, ld59_3, y_eql, b1, st_eY, stY_3]
    exact finish_0 _ _ _ _ _ (ho _ _ j0)
end Go.Ab
